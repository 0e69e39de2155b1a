/- Contracts of the functions that MatchMade reaches, and the walk of the law, part 1. Conditions: none. -/
import Derived.Test.YtpopimckmalfdaaSxTwo
import Derived.Test.YtpopimckmalfdaaChecked
namespace Go.Sx.T1
open Go.Proofs

theorem mix : Try.prog.follows .mixedOrders = true := by kernel_rfl

def mMod (n m : Int) : Int := if m < 1 then 0 else n % m

theorem tmod_fix (n m : Int) (h : 1 ≤ m) : (n.tmod m < 0 → n.tmod m + m = n % m) ∧ (¬ n.tmod m < 0 → n.tmod m = n % m) := by
  have h1 := Int.emod_lt_of_pos n (show 0 < m by omega)
  have h2 := Int.emod_nonneg n (show m ≠ 0 by omega)
  rw [Int.tmod_eq_emod]
  split <;> omega

set_option maxRecDepth 10000 in
theorem mod_fc (n m : Int) (hm : m < 9223372036854775808) : FC Try.prog 15 [int .i64 n, int .i64 m] [] (int .i64 (mMod n m)) [] := by
  refine FC.b mix Try.func15 ?_
  refine bselD (fun h => ?_) (fun h => ?_)
  · exact ⟨congrArg (int .i64) (by simp [mMod, h]), trivial⟩
  · refine ⟨by omega, ?_⟩
    have hlt := Int.tmod_lt_of_pos n (show 0 < m by omega)
    have hgt := Int.lt_tmod_of_pos n (show 0 < m by omega)
    have e := tmod_fix n m (by omega)
    refine bselD (fun h2 => ?_) (fun h2 => ?_)
    · refine ⟨congrArg (int .i64) ?_, trivial⟩
      rw [wrap64_in (by omega) (by omega)]
      simp only [mMod, h, if_false]
      exact e.1 h2
    · exact ⟨congrArg (int .i64) (by simp [mMod, h]; exact e.2 h2), trivial⟩

/-- the dice: name 0 the two fields, name 1 the numbers; k numbers have been asked for -/
def diceB (ts : List Int) (k : Nat) : Option Blk := some ⟨.box [.s 1 0 ts.length 1, .v (.int .i64 (min k ts.length : Nat))], true⟩
def diceL (ts : List Int) : Option Blk := some ⟨.ints .i64 ts, false⟩
def dv (ts : List Int) (k : Nat) (n : Int) : Int := mMod (ts.getD k 0) n

set_option maxRecDepth 10000 in
theorem next_fc (ts : List Int) (k : Nat) (n : Int) (hn : n < 9223372036854775808) (hl : ts.length ≤ 400) :
    FC Try.prog 12 [.o (.c (.p 0 0 0)), int .i64 n] [diceB ts k, diceL ts] (int .i64 (dv ts k n)) [diceB ts (k + 1), diceL ts] := by
  refine FC.b mix Try.func12 ?_
  refine ⟨by kernel_rfl, ?_⟩
  refine bselD (fun h => ?_) (fun h => ?_)
  · have h' : ts.length ≤ k := by omega
    refine ⟨congrArg (int .i64) ?_, congrArg some ?_, rfl, trivial⟩
    · simp [dv, h', mMod]
    · simp [Nat.min_eq_right h', Nat.min_eq_right (Nat.le_succ_of_le h')]
  · have h' : k < ts.length := by omega
    have e : min k ts.length = k := Nat.min_eq_left (by omega)
    have e2 : min (k + 1) ts.length = k + 1 := Nat.min_eq_left (by omega)
    have w1 : IntKind.i64.wrap ((k : Int) + 1) = (k : Int) + 1 := wrap64_in (by omega) (by omega)
    have w2 : IntKind.i64.wrap ((k : Int) + 1 - 1) = (k : Int) := by rw [wrap64_in (by omega) (by omega)]; omega
    skip
    refine ⟨⟨?_, ?_⟩, ?_, ?_⟩
    · rw [e, w1, w2]; omega
    · rw [e, w1, w2]; omega
    · rw [e, w1, w2]; omega
    refine FC.use (mod_fc (ts.getD k 0) n hn) [] (congrArg (fun x => [int .i64 (ts.getD x 0), int .i64 n]) ?_) rfl trivial rfl rfl trivial ?_
    · rw [e, w1, w2]; simp
    refine ⟨by kernel_rfl, ?_⟩
    refine ⟨congrArg (int .i64) ?_, congrArg some ?_, rfl, trivial⟩
    · rfl
    · rw [e, w1, e2]; rfl
end Go.Sx.T1
namespace Go.Sx.T1
open Go.Proofs
set_option maxRecDepth 10000 in
theorem light_fc (ts : List Int) : FC Try.prog 8 [.o (.c (.s 0 0 ts.length 1))] [diceL ts] (boo (decide (ts.length ≤ 400))) [diceL ts] := by
  refine FC.b mix Try.func8 ?_
  exact ⟨congrArg boo (show decide ((ts.length : Int) ≤ 400) = decide (ts.length ≤ 400) by rw [Bool.eq_iff_iff]; simp; omega), rfl, trivial⟩
set_option maxRecDepth 10000 in
theorem roll_fc (ts : List Int) : FC Try.prog 10 [.o (.c (.s 0 0 ts.length 1))] [diceL ts] (.o (.c (.p 1 0 0))) [diceL ts, some ⟨.box [.s 0 0 ts.length 1, .v (.int .i64 0)], true⟩] := by
  refine FC.b mix Try.func10 ?_
  exact ⟨rfl, rfl, rfl, trivial⟩
theorem mMod_bd {n m : Int} (h : 1 ≤ m) : 0 ≤ mMod n m ∧ mMod n m < m := by
  unfold mMod
  rw [if_neg (by omega)]
  exact ⟨Int.emod_nonneg n (by omega), Int.emod_lt_of_pos n (by omega)⟩
theorem dv_bd (ts : List Int) (k : Nat) {n : Int} (h : 1 ≤ n) : 0 ≤ dv ts k n ∧ dv ts k n < n := mMod_bd h

theorem next_x (ts : List Int) (k : Nat) (n : Int) (hn : n < 9223372036854775808) (hl : ts.length ≤ 400) :
    ∃ v, FC Try.prog 12 [.o (.c (.p 0 0 0)), int .i64 n] [diceB ts k, diceL ts] (int .i64 v) [diceB ts (k + 1), diceL ts] ∧ v = dv ts k n := ⟨_, next_fc ts k n hn hl, rfl⟩
def u8s (xs : List Int) (wr : Bool) : Option Blk := some ⟨.ints .u8 xs, wr⟩
def i64s (xs : List Int) (wr : Bool) : Option Blk := some ⟨.ints .i64 xs, wr⟩
theorem newI (sz : Nat) {k : IntKind} (h : sz = 1) : Bk.fits (.ints k []) sz ∧ Bk.need (.ints k []) = 0 := ⟨.inr ⟨h, Nat.le_refl 1, fun _ h => absurd h (Nat.not_lt_zero _)⟩, rfl⟩
end Go.Sx.T1
namespace Go.Sx.T1
open Go.Proofs
set_option maxRecDepth 10000 in
theorem one_fc (ts : List Int) (k : Nat) (n : Int) (hn : n < 9223372036854775808) (hn1 : 1 ≤ n) (hl : ts.length ≤ 400) :
    FC Try.prog 18 [.o (.c (.p 0 0 0)), int .i64 n] [diceB ts k, diceL ts] (boo (dv ts k n == n - 1)) [diceB ts (k + 1), diceL ts] := by
  refine FC.b mix Try.func18 ?_
  refine FC.u (next_fc ts k n hn hl) [0, 1] ?_
  exact ⟨congrArg (fun x => boo (dv ts k n == x)) (wrap64_in (by omega) (by omega)), rfl, rfl, trivial⟩

theorem one_x (ts : List Int) (k : Nat) (n : Int) (hn : n < 9223372036854775808) (hn1 : 1 ≤ n) (hl : ts.length ≤ 400) :
    ∃ v, FC Try.prog 18 [.o (.c (.p 0 0 0)), int .i64 n] [diceB ts k, diceL ts] (boo v) [diceB ts (k + 1), diceL ts] ∧ v = (dv ts k n == n - 1) := ⟨_, one_fc ts k n hn hn1 hl, rfl⟩
end Go.Sx.T1
namespace Go.Sx.T1
open Go.Proofs

structure Stt where
  valid : Bool
  overflow : Bool
  outcome : Int
  source : Int
  stamp : Int
  address : Int
  chips : Int

def stC (s : Stt) : List C := [.v (.bool s.valid), .v (.bool s.overflow), .v (.int .i64 s.outcome), .v (.int .i64 s.source), .v (.int .i64 s.stamp), .v (.int .i64 s.address), .v (.int .u64 s.chips)]
def dStatus (ts : List Int) (k : Nat) (a : Int) : Stt :=
  ⟨true, dv ts k 3 == 3 - 1, 1 + dv ts (k + 1) 2, dv ts (k + 2) 3, [0, 1, dv ts (k + 3) 20, 65535].getD (dv ts (k + 4) 4).toNat 0, a, dv ts (k + 5) 1048576⟩

set_option maxRecDepth 10000 in
theorem status_fc (ts : List Int) (k : Nat) (a : Int) (hl : ts.length ≤ 400) :
    FC Try.prog 13 [.o (.c (.p 0 0 0)), int .i64 a] [diceB ts k, diceL ts] (.o (.a (stC (dStatus ts k a)))) [diceB ts (k + 6), diceL ts] := by
  refine FC.b mix Try.func13 ?_
  refine FC.u (one_fc ts k 3 (by omega) (by omega) hl) [0, 1] ?_
  refine FC.u (next_fc ts (k + 1) 2 (by omega) hl) [0, 1] ?_
  refine FC.u (next_fc ts (k + 2) 3 (by omega) hl) [0, 1] ?_
  refine FC.u (next_fc ts (k + 3) 20 (by omega) hl) [0, 1] ?_
  refine FC.u (next_fc ts (k + 4) 4 (by omega) hl) [0, 1] ?_
  have b := dv_bd ts (k + 4) (n := 4) (by omega)
  refine And.intro b (And.intro (by simp; omega) ?_)
  refine FC.u (next_fc ts (k + 5) 1048576 (by omega) hl) [0, 1] ?_
  refine And.intro (by kernel_rfl) ?_
  have b1 := dv_bd ts (k + 1) (n := 2) (by omega)
  have b5 := dv_bd ts (k + 5) (n := 1048576) (by omega)
  refine ⟨?_, rfl, rfl, trivial⟩
  show SV.o (.a _) = _
  rw [wrap64_in (n := 1 + dv ts (k + 1) 2) (by omega) (by omega), wrapU64_in (n := dv ts (k + 5) 1048576) (by omega) (by omega), Nat.zero_add]
  rfl
end Go.Sx.T1
namespace Go.Sx.T1
open Go.Proofs

def oddV (ts : List Int) (k : Nat) : Int := [-1, 0, 1, 2, 3, 4, 65535, 65536, 1048575, 1048576].getD (dv ts k 10).toNat 0
def oddS (ts : List Int) (k : Nat) (s : Stt) : Stt :=
  let v := oddV ts k
  let c := dv ts (k + 1) 6
  if c = 0 then { s with valid := !s.valid }
  else if c = 1 then { s with outcome := v }
  else if c = 2 then { s with source := v }
  else if c = 3 then { s with stamp := v }
  else if c = 4 then { s with address := v }
  else { s with chips := [549755813888, 1099511627776, 9223372036854775808].getD (dv ts (k + 2) 3).toNat 0 }
def oddK (ts : List Int) (k : Nat) : Nat := if dv ts (k + 1) 6 = 0 ∨ dv ts (k + 1) 6 = 1 ∨ dv ts (k + 1) 6 = 2 ∨ dv ts (k + 1) 6 = 3 ∨ dv ts (k + 1) 6 = 4 then k + 2 else k + 3

set_option maxRecDepth 10000 in
theorem oddStatus_fc (ts : List Int) (k : Nat) (s : Stt) (hl : ts.length ≤ 400) :
    FC Try.prog 29 [.o (.c (.p 0 0 0)), .o (.a (stC s))] [diceB ts k, diceL ts] (.o (.a (stC (oddS ts k s)))) [diceB ts (oddK ts k), diceL ts] := by
  refine FC.b mix Try.func29 ?_
  refine FC.u (next_fc ts k 10 (by omega) hl) [0, 1] ?_
  have b := dv_bd ts k (n := 10) (by omega)
  have b2 := dv_bd ts (k + 2) (n := 3) (by omega)
  refine And.intro b (And.intro (by simp; omega) ?_)
  refine FC.u (next_fc ts (k + 1) 6 (by omega) hl) [0, 1] ?_
  refine bselE (fun h0 => ?_) (fun h0 => ?_)
  · exact ⟨congrArg (fun x => SV.o (.a (stC x))) (show ({ s with valid := !s.valid } : Stt) = oddS ts k s by simp only [oddS, if_pos h0]), congrArg (diceB ts) (show k + 2 = oddK ts k by unfold oddK; rw [if_pos (by omega)]), rfl, trivial⟩
  refine bselE (fun h1 => ?_) (fun h1 => ?_)
  · exact ⟨congrArg (fun x => SV.o (.a (stC x))) (show ({ s with outcome := [-1, 0, 1, 2, 3, 4, 65535, 65536, 1048575, 1048576].getD (0 + (dv ts k 10).toNat) 0 } : Stt) = oddS ts k s by simp only [oddS, if_neg h0, if_pos h1, oddV, Nat.zero_add]), congrArg (diceB ts) (show k + 2 = oddK ts k by unfold oddK; rw [if_pos (by omega)]), rfl, trivial⟩
  refine bselE (fun h2 => ?_) (fun h2 => ?_)
  · exact ⟨congrArg (fun x => SV.o (.a (stC x))) (show ({ s with source := [-1, 0, 1, 2, 3, 4, 65535, 65536, 1048575, 1048576].getD (0 + (dv ts k 10).toNat) 0 } : Stt) = oddS ts k s by simp only [oddS, if_neg h0, if_neg h1, if_pos h2, oddV, Nat.zero_add]), congrArg (diceB ts) (show k + 2 = oddK ts k by unfold oddK; rw [if_pos (by omega)]), rfl, trivial⟩
  refine bselE (fun h3 => ?_) (fun h3 => ?_)
  · exact ⟨congrArg (fun x => SV.o (.a (stC x))) (show ({ s with stamp := [-1, 0, 1, 2, 3, 4, 65535, 65536, 1048575, 1048576].getD (0 + (dv ts k 10).toNat) 0 } : Stt) = oddS ts k s by simp only [oddS, if_neg h0, if_neg h1, if_neg h2, if_pos h3, oddV, Nat.zero_add]), congrArg (diceB ts) (show k + 2 = oddK ts k by unfold oddK; rw [if_pos (by omega)]), rfl, trivial⟩
  refine bselE (fun h4 => ?_) (fun h4 => ?_)
  · exact ⟨congrArg (fun x => SV.o (.a (stC x))) (show ({ s with address := [-1, 0, 1, 2, 3, 4, 65535, 65536, 1048575, 1048576].getD (0 + (dv ts k 10).toNat) 0 } : Stt) = oddS ts k s by simp only [oddS, if_neg h0, if_neg h1, if_neg h2, if_neg h3, if_pos h4, oddV, Nat.zero_add]), congrArg (diceB ts) (show k + 2 = oddK ts k by unfold oddK; rw [if_pos (by omega)]), rfl, trivial⟩
  refine FC.u (next_fc ts (k + 2) 3 (by omega) hl) [0, 1] ?_
  refine And.intro b2 (And.intro (by simp; omega) ?_)
  exact ⟨congrArg (fun x => SV.o (.a (stC x))) (show ({ s with chips := [549755813888, 1099511627776, 9223372036854775808].getD (0 + (dv ts (k + 2) 3).toNat) 0 } : Stt) = oddS ts k s by simp only [oddS, if_neg h0, if_neg h1, if_neg h2, if_neg h3, if_neg h4, Nat.zero_add]), congrArg (diceB ts) (show k + 3 = oddK ts k by unfold oddK; rw [if_neg (by omega)]), rfl, trivial⟩

def eqS (s t : Stt) : Bool := s.valid == t.valid && (s.overflow == t.overflow && (s.outcome == t.outcome && (s.source == t.source && (s.stamp == t.stamp && (s.address == t.address && (s.chips == t.chips && true))))))
def zS : Stt := ⟨false, false, 0, 0, 0, 0, 0⟩
theorem eqS_iff {s t : Stt} : eqS s t = true ↔ s = t := by
  obtain ⟨a, b, c, d, e, f, g⟩ := s
  obtain ⟨a', b', c', d', e', f', g'⟩ := t
  simp [eqS]
theorem eqS_self (s : Stt) : eqS s s = true := eqS_iff.2 rfl

set_option maxRecDepth 10000 in
theorem zero_fc (s : Stt) : FC Try.prog 43 [.o (.a (stC s))] [] (boo (eqS s zS)) [] := by
  refine FC.b mix Try.func43 ?_
  refine And.intro (by kernel_rfl) ?_
  exact ⟨rfl, trivial⟩
set_option maxRecDepth 10000 in
theorem between_fc (n a b : Int) : FC Try.prog 44 [int .i64 n, int .i64 a, int .i64 b] [] (boo (decide (a ≤ n) && decide (n ≤ b))) [] := by
  refine FC.b mix Try.func44 ?_
  refine bselD (fun h => ?_) (fun h => ?_)
  · exact ⟨congrArg boo (show decide (n ≤ b) = (decide (a ≤ n) && decide (n ≤ b)) by simp [show a ≤ n by omega]), trivial⟩
  · exact ⟨congrArg boo (show false = (decide (a ≤ n) && decide (n ≤ b)) by simp [show ¬ a ≤ n by omega]), trivial⟩

end Go.Sx.T1
namespace Go.Sx.T1
open Go.Proofs
def in8 (n a b : Int) : Bool := decide (a ≤ n) && decide (n ≤ b)
def validS (s : Stt) : Bool := eqS s zS || (s.valid && (in8 s.outcome 1 2 && (in8 s.source 0 2 && (in8 s.stamp 0 65535 && (in8 s.address 0 1048575 && s.chips / 1099511627776 == 0)))))
theorem fdiv40 (n : Int) : n.fdiv (2 ^ 40) = n / 1099511627776 := Int.fdiv_eq_ediv_of_nonneg _ (by decide)
set_option maxRecDepth 10000 in
theorem valid_fc (s : Stt) : FC Try.prog 42 [.o (.a (stC s))] [] (boo (validS s)) [] := by
  refine FC.b mix Try.func42 ?_
  refine FC.u (zero_fc s) [] ?_
  refine bsel_intro (fun h0 => ?_) (fun h0 => ?_)
  · exact ⟨congrArg boo (show true = validS s by simp [validS, h0]), trivial⟩
  refine bsel_intro (fun h1 => ?_) (fun h1 => ?_)
  rotate_left
  · exact ⟨congrArg boo (show false = validS s by simp [validS, h0, h1]), trivial⟩
  refine FC.u (between_fc s.outcome 1 2) [] ?_
  refine bsel_intro (fun h2 => ?_) (fun h2 => ?_)
  rotate_left
  · exact ⟨congrArg boo (show false = validS s by simp [validS, h0, in8, h2]), trivial⟩
  refine FC.u (between_fc s.source 0 2) [] ?_
  refine bsel_intro (fun h3 => ?_) (fun h3 => ?_)
  rotate_left
  · exact ⟨congrArg boo (show false = validS s by simp [validS, h0, in8, h3]), trivial⟩
  refine FC.u (between_fc s.stamp 0 65535) [] ?_
  refine bsel_intro (fun h4 => ?_) (fun h4 => ?_)
  rotate_left
  · exact ⟨congrArg boo (show false = validS s by simp [validS, h0, in8, h4]), trivial⟩
  refine FC.u (between_fc s.address 0 1048575) [] ?_
  refine bsel_intro (fun h5 => ?_) (fun h5 => ?_)
  rotate_left
  · exact ⟨congrArg boo (show false = validS s by simp [validS, h0, in8, h5]), trivial⟩
  refine And.intro (by decide) ?_
  refine And.intro (congrArg boo ?_) trivial
  simp only [validS, h0, in8, h1, h2, h3, h4, h5, Bool.false_or, Bool.true_and]
  rw [← fdiv40]; rfl
end Go.Sx.T1
namespace Go.Sx.T1
open Go.Proofs
theorem fv {s : Stt} (h : s.valid = false) (h0 : eqS s zS = false) : false = validS s := by simp only [validS, h0, h, Bool.false_or, Bool.false_and]
theorem validS_all {s : Stt} (h0 : eqS s zS = false) (h1 : s.valid = true) : validS s = ((decide (s.outcome = 1 ∨ s.outcome = 2)) && (decide (s.source ≥ 0) && (decide (s.source ≤ 2) && (decide (s.stamp ≥ 0) && (decide (s.stamp ≤ 65535) && (decide (s.address ≥ 0) && (decide (s.address < 1048576) && (s.chips.fdiv (2 ^ 40) == 0)))))))) := by
  simp only [validS, h0, h1, in8, Bool.false_or, Bool.true_and, fdiv40]
  have e1 : decide (s.outcome = 1 ∨ s.outcome = 2) = (decide (1 ≤ s.outcome) && decide (s.outcome ≤ 2)) := by rw [Bool.eq_iff_iff]; simp; omega
  have e2 : decide (s.address < 1048576) = decide (s.address ≤ 1048575) := by rw [Bool.eq_iff_iff]; simp; omega
  rw [e1, e2]
  simp only [ge_iff_le, Bool.and_assoc]
set_option maxRecDepth 10000 in
theorem validR_fc (s : Stt) : FC Try.prog 39 [.o (.a (stC s))] [] (boo (validS s)) [] := by
  refine FC.b mix Try.func39 ?_
  refine And.intro (by kernel_rfl) ?_
  refine bsel_intro (fun h0 => ?_) (fun h0 => ?_)
  · exact ⟨congrArg boo (show true = validS s by rw [validS, show eqS s zS = true from h0]; rfl), trivial⟩
  replace h0 : eqS s zS = false := h0
  refine bsel_intro (fun h1 => ?_) (fun h1 => ?_)
  rotate_left
  · exact ⟨congrArg boo (fv h1 h0), trivial⟩
  rw [validS_all h0 h1]
  refine bselE (fun h2 => ?_) (fun h2 => ?_)
  rotate_left
  refine bselE (fun h2' => ?_) (fun h2' => ?_)
  rotate_left
  · exact ⟨congrArg boo (by simp [h2, h2']), trivial⟩
  all_goals
    refine bselD (fun h3 => ?_) (fun h3 => ?_)
    rotate_left
    · exact ⟨congrArg boo (by simp [h3]), trivial⟩
    refine bselD (fun h4 => ?_) (fun h4 => ?_)
    rotate_left
    · exact ⟨congrArg boo (by simp [h4]), trivial⟩
    refine bselD (fun h5 => ?_) (fun h5 => ?_)
    rotate_left
    · exact ⟨congrArg boo (by simp [h5]), trivial⟩
    refine bselD (fun h6 => ?_) (fun h6 => ?_)
    rotate_left
    · exact ⟨congrArg boo (by simp [h6]), trivial⟩
    refine bselD (fun h7 => ?_) (fun h7 => ?_)
    rotate_left
    · exact ⟨congrArg boo (by simp [h7]), trivial⟩
    refine bselD (fun h8 => ?_) (fun h8 => ?_)
    rotate_left
    · exact ⟨congrArg boo (by simp [h8]), trivial⟩
    refine And.intro (by decide) ?_
    refine ⟨congrArg boo ?_, trivial⟩
    simp only [h2, h3, h4, h5, h6, h7, h8]
    first | rfl | (simp only [h2', or_true, decide_true, Bool.true_and]; rfl)
end Go.Sx.T1
namespace Go.Sx.T1
open Go.Proofs

theorem dStatus_valid (ts : List Int) (k : Nat) (a : Int) (h0 : 0 ≤ a) (h1 : a < 1048576) : validS (dStatus ts k a) = true := by
  have b1 := dv_bd ts (k + 1) (n := 2) (by omega)
  have b2 := dv_bd ts (k + 2) (n := 3) (by omega)
  have b3 := dv_bd ts (k + 3) (n := 20) (by omega)
  have b4 := dv_bd ts (k + 4) (n := 4) (by omega)
  have b5 := dv_bd ts (k + 5) (n := 1048576) (by omega)
  have hs : 0 ≤ [0, 1, dv ts (k + 3) 20, 65535].getD (dv ts (k + 4) 4).toNat 0 ∧ [0, 1, dv ts (k + 3) 20, 65535].getD (dv ts (k + 4) 4).toNat 0 ≤ 65535 := by
    have : (dv ts (k + 4) 4).toNat = 0 ∨ (dv ts (k + 4) 4).toNat = 1 ∨ (dv ts (k + 4) 4).toNat = 2 ∨ (dv ts (k + 4) 4).toNat = 3 := by omega
    rcases this with h | h | h | h <;> rw [h]
    · show (0 : Int) ≤ 0 ∧ (0 : Int) ≤ 65535; omega
    · show (0 : Int) ≤ 1 ∧ (1 : Int) ≤ 65535; omega
    · show 0 ≤ dv ts (k + 3) 20 ∧ dv ts (k + 3) 20 ≤ 65535; omega
    · show (0 : Int) ≤ 65535 ∧ (65535 : Int) ≤ 65535; omega
  simp only [validS, in8, Bool.or_eq_true, Bool.and_eq_true, decide_eq_true_eq, beq_iff_eq]
  refine .inr ⟨rfl, ?_, ?_, hs, ?_, ?_⟩
  · show 1 ≤ 1 + dv ts (k + 1) 2 ∧ 1 + dv ts (k + 1) 2 ≤ 2; omega
  · show 0 ≤ dv ts (k + 2) 3 ∧ dv ts (k + 2) 3 ≤ 2; omega
  · show 0 ≤ a ∧ a ≤ 1048575; omega
  · show dv ts (k + 5) 1048576 / 1099511627776 = 0; omega
theorem status_x (ts : List Int) (k : Nat) (a : Int) (hl : ts.length ≤ 400) (h0 : 0 ≤ a) (h1 : a < 1048576) :
    ∃ s, FC Try.prog 13 [.o (.c (.p 0 0 0)), int .i64 a] [diceB ts k, diceL ts] (.o (.a (stC s))) [diceB ts (k + 6), diceL ts] ∧ validS s = true ∧ s = dStatus ts k a := ⟨_, status_fc ts k a hl, dStatus_valid ts k a h0 h1, rfl⟩
theorem dStatus_is (ts : List Int) (k : Nat) (a : Int) : (dStatus ts k a).valid = true ∧ ((dStatus ts k a).outcome = 1 ∨ (dStatus ts k a).outcome = 2) := by
  have := dv_bd ts (k + 1) (n := 2) (by omega)
  refine ⟨rfl, ?_⟩
  show 1 + dv ts (k + 1) 2 = 1 ∨ 1 + dv ts (k + 1) 2 = 2
  omega
theorem status_v (ts : List Int) (k : Nat) (a : Int) (hl : ts.length ≤ 400) (h0 : 0 ≤ a) (h1 : a < 1048576) :
    ∃ s, FC Try.prog 13 [.o (.c (.p 0 0 0)), int .i64 a] [diceB ts k, diceL ts] (.o (.a (stC s))) [diceB ts (k + 6), diceL ts] ∧ validS s = true ∧ s.valid = true ∧ (s.outcome = 1 ∨ s.outcome = 2) :=
  ⟨_, status_fc ts k a hl, dStatus_valid ts k a h0 h1, dStatus_is ts k a⟩
theorem oddStatus_x (ts : List Int) (k : Nat) (s : Stt) (hl : ts.length ≤ 400) :
    ∃ p : Stt × Nat, FC Try.prog 29 [.o (.c (.p 0 0 0)), .o (.a (stC s))] [diceB ts k, diceL ts] (.o (.a (stC p.1))) [diceB ts p.2, diceL ts] ∧ True := ⟨(_, _), oddStatus_fc ts k s hl, trivial⟩
end Go.Sx.T1
namespace Go.Sx.T1
open Go.Proofs

structure Pl where
  a : Int
  b : Int
  c : Int
  d : Int
  e : Int
  f : Int
structure Rcd where
  seq : Int
  time : Int
  bank : Int
  st : Stt
  pl : Pl
def plC (p : Pl) : List C := [.v (.int .i64 p.a), .v (.int .i64 p.b), .v (.int .i64 p.c), .v (.int .i64 p.d), .v (.int .i64 p.e), .v (.int .i64 p.f)]
def rcC (r : Rcd) : List C := [.v (.int .i64 r.seq), .v (.int .i64 r.time), .v (.int .i64 r.bank),
  .v (.bool r.st.valid), .v (.bool r.st.overflow), .v (.int .i64 r.st.outcome), .v (.int .i64 r.st.source), .v (.int .i64 r.st.stamp), .v (.int .i64 r.st.address), .v (.int .u64 r.st.chips),
  .v (.int .i64 r.pl.a), .v (.int .i64 r.pl.b), .v (.int .i64 r.pl.c), .v (.int .i64 r.pl.d), .v (.int .i64 r.pl.e), .v (.int .i64 r.pl.f)]
def dPl (ts : List Int) (k : Nat) : Pl := ⟨dv ts k 1, dv ts (k + 1) 2, dv ts (k + 2) 1, dv ts (k + 3) 4, dv ts (k + 4) 8, dv ts (k + 5) 4⟩
set_option maxHeartbeats 3200000 in
set_option maxRecDepth 10000 in
theorem place_fc (ts : List Int) (k : Nat) (hl : ts.length ≤ 400) :
    FC Try.prog 33 [.o (.c (.p 0 0 0)), .o (.a [.v (.int .i64 0), .v (.int .i64 1), .v (.int .i64 0), .v (.int .i64 2), .v (.int .i64 3), .v (.int .i64 2)])] [diceB ts k, diceL ts] (.o (.a (plC (dPl ts k)))) [diceB ts (k + 6), diceL ts] := by
  refine FC.b mix Try.func33 ?_
  repeat (first | refine And.intro (by kernel_rfl) ?_ | refine And.intro (by decide) ?_)
  refine FC.u (next_fc ts k 1 (by omega) hl) [0, 1] ?_
  repeat (first | refine And.intro (by kernel_rfl) ?_ | refine And.intro (by decide) ?_)
  refine FC.u (next_fc ts (k + 1) 2 (by omega) hl) [0, 1] ?_
  repeat (first | refine And.intro (by kernel_rfl) ?_ | refine And.intro (by decide) ?_)
  refine FC.u (next_fc ts (k + 2) 1 (by omega) hl) [0, 1] ?_
  repeat (first | refine And.intro (by kernel_rfl) ?_ | refine And.intro (by decide) ?_)
  refine FC.u (next_fc ts (k + 3) 4 (by omega) hl) [0, 1] ?_
  repeat (first | refine And.intro (by kernel_rfl) ?_ | refine And.intro (by decide) ?_)
  refine FC.u (next_fc ts (k + 4) 8 (by omega) hl) [0, 1] ?_
  repeat (first | refine And.intro (by kernel_rfl) ?_ | refine And.intro (by decide) ?_)
  refine FC.u (next_fc ts (k + 5) 4 (by omega) hl) [0, 1] ?_
  repeat (first | refine And.intro (by kernel_rfl) ?_ | refine And.intro (by decide) ?_)
  exact trivial
def dRc (ts : List Int) (k : Nat) (seq : Int) : Rcd := ⟨seq, dv ts k 1000, dv ts (k + 1) 3, dStatus ts (k + 3) (dv ts (k + 2) 256), dPl ts (k + 9)⟩
set_option maxHeartbeats 3200000 in
set_option maxRecDepth 10000 in
theorem record_fc (ts : List Int) (k : Nat) (seq : Int) (hl : ts.length ≤ 400) :
    FC Try.prog 23 [.o (.c (.p 0 0 0)), int .i64 seq] [diceB ts k, diceL ts] (.o (.a (rcC (dRc ts k seq)))) [diceB ts (k + 15), diceL ts] := by
  refine FC.b mix Try.func23 ?_
  repeat (first | refine And.intro (by kernel_rfl) ?_ | refine And.intro (by decide) ?_)
  refine FC.u (next_fc ts k 1000 (by omega) hl) [0, 1] ?_
  refine FC.u (next_fc ts (k + 1) 3 (by omega) hl) [0, 1] ?_
  refine FC.u (next_fc ts (k + 2) 256 (by omega) hl) [0, 1] ?_
  refine FC.u (status_fc ts (k + 3) _ hl) [0, 1] ?_
  refine FC.u (place_fc ts (k + 9) hl) [0, 1] ?_
  repeat (first | refine And.intro (by kernel_rfl) ?_ | refine And.intro (by decide) ?_)
  exact trivial
end Go.Sx.T1
namespace Go.Sx.T1
open Go.Proofs
def zR : Rcd := ⟨0, 0, 0, zS, ⟨0, 0, 0, 0, 0, 0⟩⟩
def recs (l : List Rcd) (wr : Bool) : Option Blk := some ⟨.rows 16 l.length (fun i => rcC (l.getD i zR)), wr⟩
structure PlV (p : Pl) : Prop where
  a : 0 ≤ p.a ∧ p.a < 8
  b : 0 ≤ p.b ∧ p.b < 8
  c : 0 ≤ p.c ∧ p.c < 8
  d : 0 ≤ p.d ∧ p.d < 8
  e : 0 ≤ p.e ∧ p.e < 8
  f : 0 ≤ p.f ∧ p.f < 8
/-- a record that was made -/
structure RcV (r : Rcd) : Prop where
  seq : 1 ≤ r.seq ∧ r.seq ≤ 100
  time : 0 ≤ r.time ∧ r.time < 1000
  bank : 0 ≤ r.bank ∧ r.bank < 3
  st : validS r.st = true ∧ r.st.valid = true
  pl : PlV r.pl
structure RcG (l : List Rcd) : Prop where
  up : l.Pairwise (fun r s => r.seq < s.seq)
  v : ∀ r ∈ l, RcV r
theorem dRc_v (ts : List Int) (k : Nat) {q : Int} (h : 1 ≤ q ∧ q ≤ 100) : RcV (dRc ts k q) := by
  have d2 := dv_bd ts (k + 2) (n := 256) (by omega)
  have p0 := dv_bd ts (k + 9) (n := 1) (by omega)
  have p1 := dv_bd ts (k + 9 + 1) (n := 2) (by omega)
  have p2 := dv_bd ts (k + 9 + 2) (n := 1) (by omega)
  have p3 := dv_bd ts (k + 9 + 3) (n := 4) (by omega)
  have p4 := dv_bd ts (k + 9 + 4) (n := 8) (by omega)
  have p5 := dv_bd ts (k + 9 + 5) (n := 4) (by omega)
  refine ⟨h, dv_bd ts k (n := 1000) (by omega), dv_bd ts (k + 1) (n := 3) (by omega), ⟨dStatus_valid ts (k + 3) _ d2.1 (by omega), (dStatus_is ts (k + 3) _).1⟩, ?_, ?_, ?_, ?_, ?_, ?_⟩
  · exact ⟨p0.1, by show dv ts (k + 9) 1 < 8; omega⟩
  · exact ⟨p1.1, by show dv ts (k + 9 + 1) 2 < 8; omega⟩
  · exact ⟨p2.1, by show dv ts (k + 9 + 2) 1 < 8; omega⟩
  · exact ⟨p3.1, by show dv ts (k + 9 + 3) 4 < 8; omega⟩
  · exact ⟨p4.1, by show dv ts (k + 9 + 4) 8 < 8; omega⟩
  · exact ⟨p5.1, by show dv ts (k + 9 + 5) 4 < 8; omega⟩
theorem record_x (ts : List Int) (k : Nat) (q : Int) (hl : ts.length ≤ 400) (h : 1 ≤ q ∧ q ≤ 100) :
    ∃ r : Rcd, FC Try.prog 23 [.o (.c (.p 0 0 0)), int .i64 q] [diceB ts k, diceL ts] (.o (.a (rcC r))) [diceB ts (k + 15), diceL ts] ∧ RcV r ∧ r.seq = q :=
  ⟨_, record_fc ts k q hl, dRc_v ts k h, rfl⟩
structure XR where
  n : Nat
  k : Nat
  q : Int
  l : List Rcd
structure XRI (N : Nat) (x : XR) : Prop where
  n : x.l.length + x.n ≤ N
  q0 : 0 ≤ x.q
  q : x.q ≤ 3 * x.l.length
  le : ∀ r ∈ x.l, r.seq ≤ x.q
  g : RcG x.l
def recM (ts : List Int) (x : List Rcd × Nat) : Mem := [diceB ts x.2, diceL ts, recs x.1 true]
theorem rowR {p : Rcd} (l : List Rcd) (j : Nat) (hj : j < l.length + 1) :
    (if j < l.length then rcC (l.getD (0 + j) zR) else ((rcC p).drop ((0 + (j - l.length)) * 16)).take 16) = rcC ((l ++ [p]).getD j zR) := by
  by_cases h : j < l.length
  · rw [if_pos h, Nat.zero_add]
    simp [List.getD, List.getElem?_append_left h]
  · rw [if_neg h]
    obtain rfl : j = l.length := by omega
    rw [Nat.sub_self]
    simp [rcC, List.getD]
set_option maxHeartbeats 3200000 in
set_option maxRecDepth 10000 in
theorem records_fc (ts : List Int) (k N : Nat) (hl : ts.length ≤ 400) (hN : N ≤ 15) : ∃ x : List Rcd × Nat, FC Try.prog 11 [.o (.c (.p 0 0 0)), int .i64 N] [diceB ts k, diceL ts] (.o (.c (.s 2 0 x.1.length 16))) (recM ts x) ∧ RcG x.1 ∧ x.1.length ≤ N := by
  refine FC.rj mix Try.func11 ?_
  have wN : IntKind.i64.wrap ((N : Int) + 1) = (N : Int) + 1 := wrap64_in (by omega) (by omega)
  conv => whnf
  rw [wN]
  have h1 := dv_bd ts k (n := (N : Int) + 1) (by omega)
  refine FC.x (next_x ts k ((N : Int) + 1) (by omega) hl) [0, 1] (fun n en => ?_)
  rw [← en] at h1
  clear en
  obtain ⟨n, rfl⟩ : ∃ m : Nat, n = m := ⟨n.toNat, by omega⟩
  refine ALoop.goN (X := XR) (XRI N) (fun x => x.n) [0] [1] (fun x => [(5, .o (.c (.s 2 0 x.l.length 16))), (6, int .i64 x.q), (7, int .i64 x.n)])
    (fun x => [(0, ⟨.box [.s 1 0 ts.length 1, .v (.int .i64 (min x.k ts.length : Nat))], true⟩), (2, ⟨.rows 16 x.l.length (fun i => rcC (x.l.getD i zR)), true⟩)]) ⟨n, k + 1, 0, []⟩ 3
    ⟨by show 0 + n ≤ N; omega, Int.le_refl _, Int.le_refl _, (fun r h => by cases h), .nil, (fun r h => by cases h)⟩ (isAt.go [(2, .new 16)] ⟨rfl, rfl, rfl, trivial⟩ ⟨.inl rfl, ⟨.inr ⟨rfl, Nat.le_of_ble_eq_true rfl, fun _ h => absurd h (Nat.not_lt_zero _)⟩, rfl⟩, trivial⟩) ?_
  rintro ⟨n, k, q, l⟩ ⟨hn, hq0, hq, hle, hg⟩
  simp only at hn hq0 hq hle hg
  dsimp only [headF, headM]
  refine bselD (fun hgt => ?_) (fun hlt => ?_)
  · have hn0 : 0 < n := by have : (n : Int) > 0 := hgt; omega
    have wn : IntKind.i64.wrap ((n : Int) - 1) = ((n - 1 : Nat) : Int) := by rw [wrap64_in (by omega) (by omega)]; omega
    repeat refine AJoin.plain ?_
    have d3 := dv_bd ts k (n := 3) (by omega)
    refine FC.x (next_x ts k 3 (by omega) hl) [0, 1] (fun a ea => ?_)
    rw [← ea] at d3
    clear ea
    have w1 : IntKind.i64.wrap (1 + a) = 1 + a := wrap64_in (by omega) (by omega)
    have w2 : IntKind.i64.wrap (q + (1 + a)) = q + (1 + a) := wrap64_in (by omega) (by omega)
    repeat refine AJoin.plain ?_
    conv => whnf
    rw [w1, w2]
    refine FC.x (record_x ts (k + 1) (q + (1 + a)) hl ⟨by omega, by omega⟩) [0, 1] (fun r hr => ?_)
    obtain ⟨hv, hs⟩ := hr
    repeat (first | refine And.intro (by kernel_rfl) ?_ | refine And.intro (by decide) ?_)
    refine And.intro ⟨by show 0 + l.length ≤ l.length; omega, fun _ _ => rfl⟩ ?_
    refine And.intro ⟨Nat.le_of_ble_eq_true rfl, fun q hq => by have hq' : q < 1 := hq; obtain rfl : q = 0 := (by omega); rfl⟩ ?_
    refine And.intro (by show l.length + 1 ≤ 4294967296; omega) ?_
    repeat (first | refine And.intro (by kernel_rfl) ?_ | refine And.intro (by decide) ?_)
    have inv : XRI N ⟨n - 1, k + 1 + 15, q + (1 + a), l ++ [r]⟩ := by
      refine ⟨by simp; omega, by simp only; omega, by simp; omega, ?_, ?_, ?_⟩
      · intro s hs'
        simp only [List.mem_append, List.mem_singleton] at hs'
        rcases hs' with hs' | rfl
        · have := hle s hs'; simp only; omega
        · simp only; omega
      · refine List.pairwise_append.2 ⟨hg.up, List.pairwise_singleton _ _, fun s hs' t ht => ?_⟩
        simp only [List.mem_singleton] at ht
        subst ht
        have := hle s hs'
        omega
      · intro s hs'
        simp only [List.mem_append, List.mem_singleton] at hs'
        rcases hs' with hs' | rfl
        · exact hg.v s hs'
        · exact hv
    refine ⟨⟨n - 1, k + 1 + 15, q + (1 + a), l ++ [r]⟩, ⟨inv, by show n - 1 < n; omega⟩, isAt.go [(2, .to 4)] ⟨congrArg (fun n => SV.o (.c (.s 4 0 n 16))) (show l.length + 1 = (l ++ [r]).length by simp), rfl, congrArg (int .i64) wn, trivial⟩ ⟨.inl rfl, leB.rows (by simp) (fun j hj => ?_) id, trivial⟩⟩
    have hj' : j < (l ++ [r]).length := hj
    exact rowR (p := r) l j (by simpa using hj')
  · have hn0 : n = 0 := by have : ¬ (n : Int) > 0 := hlt; omega
    repeat (first | refine And.intro (by kernel_rfl) ?_ | refine And.intro (by decide) ?_)
    exact ⟨(l, k), ⟨hg, by show l.length ≤ N; omega⟩, .id rfl ⟨.inl rfl, .inl rfl, .inl rfl, trivial⟩⟩
end Go.Sx.T1
namespace Go.Sx.T1
open Go.Proofs
def toldV (b : Int) (s : Stt) : Value := .agg #[.int .i64 b, .bool s.valid, .bool s.overflow, .int .i64 s.outcome, .int .i64 s.source, .int .i64 s.stamp, .int .i64 s.address, .int .u64 s.chips]
def toldC (b : Int) (s : Stt) : List C := [.v (.int .i64 b), .v (.bool s.valid), .v (.bool s.overflow), .v (.int .i64 s.outcome), .v (.int .i64 s.source), .v (.int .i64 s.stamp), .v (.int .i64 s.address), .v (.int .u64 s.chips)]
def tells (b : Int) (s : Stt) (r : Rcd) : Bool := b == r.bank && eqS s r.st
set_option maxHeartbeats 3200000 in
set_option maxRecDepth 10000 in
theorem by_fc (b : Int) (s : Stt) (r : Rcd) : FC Try.prog 32 [.o (.a (toldC b s)), .o (.a (rcC r))] [] (boo (tells b s r)) [] := by
  refine FC.one (FC.r mix Try.func32 ?_)
  repeat (first | refine And.intro (by kernel_rfl) ?_ | refine And.intro (by decide) ?_)
  refine ⟨(), trivial, .id (congrArg boo ?_) trivial⟩
  show (b == r.bank && (eqS s r.st && true)) = tells b s r
  rw [Bool.and_true]; rfl
set_option maxHeartbeats 3200000 in
set_option maxRecDepth 10000 in
theorem idxBy (l : List Rcd) (hl : l.length ≤ 100000) (b : Int) (s : Stt) : ∃ n : Int, FC Try.prog 38 [.o (.c (.s 0 0 l.length 16)), .o (.c (.f 32 [.v (toldV b s)] []))] [recs l false] (int .i64 n) [recs l false] ∧ decide (n ≥ 0) = l.any (tells b s) := by
  refine FC.rj mix Try.func38 ?_
  refine ALoop.go (X := Nat) (fun i => i ≤ l.length ∧ ∀ j, j < i → (tells b s) (l.getD j zR) = false) (fun i => l.length - i) [0, 1, 6, 7] [0] (fun i => [(8, int .i64 i)]) (fun _ => []) 0 ⟨Nat.zero_le _, fun j hj => absurd hj (Nat.not_lt_zero _)⟩ ⟨rfl, trivial⟩ trivial ?_
  rintro i ⟨hi, hno⟩
  dsimp only [headF, headM]
  refine bselD (fun h => ?_) (fun h => ?_)
  · have h' : i < l.length := by have : (i : Int) < l.length := h; omega
    have wi : IntKind.i64.wrap ((i : Int) + 1) = ((i + 1 : Nat) : Int) := wrap64_in (by omega) (by omega)
    repeat refine AJoin.plain ?_
    refine And.intro ⟨by omega, by show (i : Int) < l.length; exact h⟩ ?_
    refine And.intro (by show 0 + i < l.length; omega) ?_
    refine FC.u (by_fc b s (l.getD (0 + (i : Int).toNat) zR)) [] ?_
    repeat refine AJoin.plain ?_
    have ei : 0 + (i : Int).toNat = i := by simp
    refine bsel_intro (fun hp => ?_) (fun hp => ?_) <;> rw [ei] at hp
    · refine ⟨(i : Int), ?_, .id rfl ⟨.inl rfl, trivial⟩⟩
      have h1 : l.any (tells b s) = true := List.any_eq_true.2 ⟨l.getD i zR, by simp [List.getD, h'], hp⟩
      rw [h1]
      exact decide_eq_true (by omega)
    · refine ⟨i + 1, ⟨⟨by omega, fun j hj => ?_⟩, by show l.length - (i + 1) < l.length - i; omega⟩, .id ⟨congrArg (int .i64) wi, trivial⟩ rfl trivial rfl⟩
      rcases Nat.lt_or_ge j i with h1 | h1
      · exact hno j h1
      · obtain rfl : j = i := by omega
        exact hp
  · repeat (first | refine And.intro (by kernel_rfl) ?_ | refine And.intro (by decide) ?_)
    refine ⟨-1, ?_, .id rfl ⟨.inl rfl, trivial⟩⟩
    have h1 : l.any (tells b s) = false := by
      rw [List.any_eq_false]
      intro r hr
      obtain ⟨j, hj, rfl⟩ := List.getElem_of_mem hr
      have := hno j (by have : ¬ (i : Int) < l.length := h; omega)
      simpa [List.getD, hj] using this
    rw [h1]
    rfl
end Go.Sx.T1
namespace Go.Sx.T1
open Go.Proofs
def Pl.get (p : Pl) (i : Nat) : Int := match i with
  | 0 => p.a
  | 1 => p.b
  | 2 => p.c
  | 3 => p.d
  | 4 => p.e
  | _ => p.f
theorem lt6 {i : Nat} (h : i < 6) : i = 0 ∨ i = 1 ∨ i = 2 ∨ i = 3 ∨ i = 4 ∨ i = 5 := by omega
/-- a record that is valid -/
structure RcOk (r : Rcd) : Prop where
  pl : ∀ j, j < 6 → 0 ≤ r.pl.get j ∧ r.pl.get j ≤ 4095
  seq : 1 ≤ r.seq ∧ r.seq ≤ 4294967296
  time : 0 ≤ r.time ∧ r.time ≤ 1099511627776
  bank : 0 ≤ r.bank ∧ r.bank < 16
  st : validS r.st = true ∧ r.st.valid = true
theorem RcV.ok {r : Rcd} (h : RcV r) : RcOk r :=
  ⟨fun j hj => by
    obtain ⟨a, b, c, d, e, f⟩ := h.pl
    rcases lt6 hj with rfl | rfl | rfl | rfl | rfl | rfl <;> simp only [Pl.get] <;> omega, by have := h.seq; omega, by have := h.time; omega, by have := h.bank; omega, h.st⟩
def rcB (r : Rcd) : Option Blk := some ⟨.box (rcC r), true⟩
def numB : Option Blk := some ⟨.rows 1 6 (fun i => [.p 0 0 (10 + i)]), true⟩
set_option maxHeartbeats 3200000 in
set_option maxRecDepth 10000 in
theorem numbers_fc (r : Rcd) : FC Try.prog 41 [.o (.c (.p 0 0 10))] [rcB r] (.o (.c (.s 1 0 6 1))) [rcB r, numB] := by
  refine FC.one (FC.r mix Try.func41 ?_)
  repeat (first | refine And.intro (by kernel_rfl) ?_ | refine And.intro (by decide) ?_)
  refine ⟨(), trivial, .id rfl ⟨.inl rfl, leB.rows (Nat.le_refl _) (fun j hj => ?_) id, trivial⟩⟩
  have hj' : j < 6 := hj
  rcases lt6 hj' with rfl | rfl | rfl | rfl | rfl | rfl <;> rfl
set_option maxHeartbeats 3200000 in
set_option maxRecDepth 10000 in
theorem recValid_fc (r : Rcd) : ∃ b : Bool, FC Try.prog 37 [.o (.a (rcC r))] [] (boo b) [] ∧ (b = true ↔ RcOk r) := by
  refine FC.rj mix Try.func37 ?_
  repeat (first | refine And.intro (by kernel_rfl) ?_ | refine And.intro (by decide) ?_)
  refine FC.u (numbers_fc r) [0] ?_
  refine ALoop.go (X := Nat) (fun i => i ≤ 6 ∧ ∀ j, j < i → 0 ≤ r.pl.get j ∧ r.pl.get j ≤ 4095) (fun i => 6 - i) [1, 6, 7] [0, 1] (fun i => [(8, int .i64 i)])
    (fun _ => []) 0 ⟨Nat.zero_le _, fun j h => absurd h (Nat.not_lt_zero _)⟩ ⟨rfl, trivial⟩ trivial ?_
  rintro i ⟨hi, ha⟩
  dsimp only [headF, headM]
  refine bselD (fun h => ?_) (fun h => ?_)
  · have h' : i < 6 := by have : (i : Int) < 6 := h; omega
    have wi : IntKind.i64.wrap ((i : Int) + 1) = ((i + 1 : Nat) : Int) := wrap64_in (by omega) (by omega)
    have bad : (0 ≤ r.pl.get i ∧ r.pl.get i ≤ 4095 → False) → (false = true ↔ RcOk r) := fun hb => ⟨fun h => (by cases h), fun v => (hb (v.pl i h')).elim⟩
    have nxt : 0 ≤ r.pl.get i ∧ r.pl.get i ≤ 4095 → ∀ j, j < i + 1 → 0 ≤ r.pl.get j ∧ r.pl.get j ≤ 4095 := fun h j hj => by
      rcases Nat.lt_or_ge j i with h' | h'
      · exact ha j h'
      · obtain rfl : j = i := by omega
        exact h
    repeat refine AJoin.plain ?_
    rcases lt6 h' with rfl | rfl | rfl | rfl | rfl | rfl <;>
    · repeat (first | refine And.intro (by kernel_rfl) ?_ | refine And.intro (by decide) ?_)
      refine bselD (fun c1 => ?_) (fun c1 => bselD (fun c2 => ?_) (fun c2 => ?_))
      · exact ⟨false, bad fun h => by have c1' := c1; exact absurd h.1 (Int.not_le.2 c1'), .id rfl trivial⟩
      · exact ⟨false, bad fun h => by have c2' := c2; exact absurd c2' (Int.not_lt.2 h.2), .id rfl trivial⟩
      · exact ⟨_, ⟨⟨by decide, nxt ⟨Int.not_lt.1 c1, Int.not_lt.1 c2⟩⟩, by decide⟩, .id ⟨congrArg (int .i64) wi, trivial⟩ rfl trivial rfl⟩
  · obtain rfl : i = 6 := by have : ¬ (i : Int) < 6 := h; omega
    have no : (RcOk r → False) → (false = true ↔ RcOk r) := fun hb => ⟨fun h => (by cases h), fun v => (hb v).elim⟩
    repeat (first | refine And.intro (by kernel_rfl) ?_ | refine And.intro (by decide) ?_)
    refine bselD (fun c1 => ?_) (fun c1 => ?_)
    rotate_left
    · exact ⟨false, no fun v => c1 v.seq.1, .id rfl trivial⟩
    refine bselD (fun c2 => ?_) (fun c2 => ?_)
    rotate_left
    · exact ⟨false, no fun v => c2 v.seq.2, .id rfl trivial⟩
    refine bselD (fun c3 => ?_) (fun c3 => ?_)
    rotate_left
    · exact ⟨false, no fun v => c3 v.time.1, .id rfl trivial⟩
    refine bselD (fun c4 => ?_) (fun c4 => ?_)
    rotate_left
    · exact ⟨false, no fun v => c4 v.time.2, .id rfl trivial⟩
    refine bselD (fun c5 => ?_) (fun c5 => ?_)
    rotate_left
    · exact ⟨false, no fun v => c5 v.bank.1, .id rfl trivial⟩
    refine bselD (fun c6 => ?_) (fun c6 => ?_)
    rotate_left
    · exact ⟨false, no fun v => c6 v.bank.2, .id rfl trivial⟩
    refine FC.u (valid_fc r.st) [] ?_
    refine bsel_intro (fun c7 => ?_) (fun c7 => ?_)
    rotate_left
    · exact ⟨false, no (fun v => by rw [v.st.1] at c7; cases c7), .id rfl trivial⟩
    refine ⟨r.st.valid, ⟨fun h => ⟨ha, ⟨c1, c2⟩, ⟨c3, c4⟩, ⟨c5, c6⟩, c7, h⟩, fun v => v.st.2⟩, .id rfl trivial⟩
set_option maxHeartbeats 3200000 in
set_option maxRecDepth 10000 in
theorem numR_fc (p : Pl) : FC Try.prog 40 [.o (.a (plC p))] [] (.o (.a (plC p))) [] := by
  refine FC.one (FC.r mix Try.func40 ?_)
  repeat (first | refine And.intro (by kernel_rfl) ?_ | refine And.intro (by decide) ?_)
  exact ⟨(), trivial, .id rfl trivial⟩
set_option maxHeartbeats 3200000 in
set_option maxRecDepth 10000 in
theorem refValid_fc (r : Rcd) : ∃ b : Bool, FC Try.prog 34 [.o (.a (rcC r))] [] (boo b) [] ∧ (b = true ↔ RcOk r) := by
  refine FC.rj mix Try.func34 ?_
  have no : (RcOk r → False) → (false = true ↔ RcOk r) := fun hb => ⟨fun h => (by cases h), fun v => (hb v).elim⟩
  repeat (first | refine And.intro (by kernel_rfl) ?_ | refine And.intro (by decide) ?_)
  refine bselD (fun c1 => ?_) (fun c1 => ?_)
  · exact ⟨false, no (fun v => (Int.not_lt.2 v.seq.1) c1), .id rfl trivial⟩
  refine bselD (fun c2 => ?_) (fun c2 => ?_)
  · exact ⟨false, no (fun v => (Int.not_lt.2 v.seq.2) c2), .id rfl trivial⟩
  refine bselD (fun c3 => ?_) (fun c3 => ?_)
  · exact ⟨false, no (fun v => (Int.not_lt.2 v.time.1) c3), .id rfl trivial⟩
  refine bselD (fun c4 => ?_) (fun c4 => ?_)
  · exact ⟨false, no (fun v => (Int.not_lt.2 v.time.2) c4), .id rfl trivial⟩
  refine bselD (fun c5 => ?_) (fun c5 => ?_)
  · exact ⟨false, no (fun v => (Int.not_lt.2 v.bank.1) c5), .id rfl trivial⟩
  refine bselD (fun c6 => ?_) (fun c6 => ?_)
  · exact ⟨false, no (fun v => (Int.not_le.2 v.bank.2) c6), .id rfl trivial⟩
  refine FC.u (validR_fc r.st) [] ?_
  refine bselNot (bsel_intro (fun c7 => ?_) (fun c7 => ?_))
  rotate_left
  · exact ⟨false, no (fun v => by rw [v.st.1] at c7; cases c7), .id rfl trivial⟩
  refine bselNot (bsel_intro (fun c8 => ?_) (fun c8 => ?_))
  rotate_left
  · exact ⟨false, no (fun v => by rw [v.st.2] at c8; cases c8), .id rfl trivial⟩
  repeat (first | refine And.intro (by kernel_rfl) ?_ | refine And.intro (by decide) ?_)
  refine FC.u (numR_fc r.pl) [] ?_
  refine ALoop.go (X := Nat) (fun i => i ≤ 6 ∧ ∀ j, j < i → 0 ≤ r.pl.get j ∧ r.pl.get j ≤ 4095) (fun i => 6 - i) [3] [1] (fun i => [(4, int .i64 i)])
    (fun _ => []) 0 ⟨Nat.zero_le _, fun j h => absurd h (Nat.not_lt_zero _)⟩ ⟨rfl, trivial⟩ trivial ?_
  rintro i ⟨hi, ha⟩
  dsimp only [headF, headM]
  refine bselD (fun h => ?_) (fun h => ?_)
  · have h' : i < 6 := by have : (i : Int) < 6 := h; omega
    have wi : IntKind.i64.wrap ((i : Int) + 1) = ((i + 1 : Nat) : Int) := wrap64_in (by omega) (by omega)
    have bad : (0 ≤ r.pl.get i ∧ r.pl.get i ≤ 4095 → False) → (false = true ↔ RcOk r) := fun hb => ⟨fun h => (by cases h), fun v => (hb (v.pl i h')).elim⟩
    have nxt : 0 ≤ r.pl.get i ∧ r.pl.get i ≤ 4095 → ∀ j, j < i + 1 → 0 ≤ r.pl.get j ∧ r.pl.get j ≤ 4095 := fun h j hj => by
      rcases Nat.lt_or_ge j i with h' | h'
      · exact ha j h'
      · obtain rfl : j = i := by omega
        exact h
    repeat refine AJoin.plain ?_
    rcases lt6 h' with rfl | rfl | rfl | rfl | rfl | rfl <;>
    · repeat (first | refine And.intro (by kernel_rfl) ?_ | refine And.intro (by decide) ?_)
      refine bselD (fun d1 => ?_) (fun d1 => ?_)
      · exact ⟨false, bad fun h => by have d1' := d1; exact absurd h.1 (Int.not_le.2 d1'), .id rfl trivial⟩
      repeat (first | refine And.intro (by kernel_rfl) ?_ | refine And.intro (by decide) ?_)
      refine bselD (fun d2 => ?_) (fun d2 => ?_)
      · exact ⟨false, bad fun h => by have d2' := d2; exact absurd d2' (Int.not_lt.2 h.2), .id rfl trivial⟩
      · exact ⟨_, ⟨⟨by decide, nxt ⟨Int.not_lt.1 d1, Int.not_lt.1 d2⟩⟩, by decide⟩, .id ⟨congrArg (int .i64) wi, trivial⟩ rfl trivial rfl⟩
  · obtain rfl : i = 6 := by have : ¬ (i : Int) < 6 := h; omega
    repeat (first | refine And.intro (by kernel_rfl) ?_ | refine And.intro (by decide) ?_)
    exact ⟨true, ⟨fun _ => ⟨ha, ⟨by omega, by omega⟩, ⟨by omega, by omega⟩, ⟨by omega, by omega⟩, c7, c8⟩, fun _ => rfl⟩, .id rfl trivial⟩
end Go.Sx.T1
namespace Go.Sx.T1
open Go.Proofs
theorem tells_iff {b : Int} {s : Stt} {r : Rcd} : tells b s r = true ↔ r.bank = b ∧ r.st = s := by
  simp only [tells, Bool.and_eq_true, beq_iff_eq, eqS_iff]
  exact ⟨fun h => ⟨h.1.symm, h.2.symm⟩, fun h => ⟨h.1.symm, h.2.symm⟩⟩
theorem tells_no {b : Int} {s : Stt} {r : Rcd} (h : ¬ (r.bank = b ∧ r.st = s)) : tells b s r = false := by
  cases h' : tells b s r with
  | false => rfl
  | true => exact absurd (tells_iff.1 h') h
set_option maxHeartbeats 3200000 in
set_option maxRecDepth 10000 in
theorem containsBy_fc (l : List Rcd) (hl : l.length ≤ 100000) (b : Int) (s : Stt) : FC Try.prog 31 [.o (.c (.s 0 0 l.length 16)), .o (.c (.f 32 [.v (toldV b s)] []))] [recs l false] (boo (l.any (tells b s))) [recs l false] := by
  refine FC.one (FC.r mix Try.func31 ?_)
  refine FC.x (idxBy l hl b s) [0] (fun n hn => ?_)
  repeat (first | refine And.intro (by kernel_rfl) ?_ | refine And.intro (by decide) ?_)
  exact ⟨(), trivial, .id (congrArg boo hn) ⟨.inl rfl, trivial⟩⟩
set_option maxHeartbeats 3200000 in
set_option maxRecDepth 10000 in
theorem known_fc (l : List Rcd) (hl : l.length ≤ 100000) (b : Int) (s : Stt) : FC Try.prog 22 [.o (.c (.s 0 0 l.length 16)), int .i64 b, .o (.a (stC s))] [recs l false] (boo (l.any (tells b s))) [recs l false] := by
  refine FC.one (FC.r mix Try.func22 ?_)
  repeat (first | refine And.intro (by kernel_rfl) ?_ | refine And.intro (by decide) ?_)
  refine FC.u (containsBy_fc l hl b s) [0] ?_
  repeat (first | refine And.intro (by kernel_rfl) ?_ | refine And.intro (by decide) ?_)
  exact ⟨(), trivial, .id rfl ⟨.inl rfl, trivial⟩⟩
set_option maxHeartbeats 3200000 in
set_option maxRecDepth 10000 in
theorem refKnown_fc (l : List Rcd) (hl : l.length ≤ 100000) (b : Int) (s : Stt) : FC Try.prog 25 [.o (.c (.s 0 0 l.length 16)), int .i64 b, .o (.a (stC s))] [recs l false] (boo (l.any (tells b s))) [recs l false] := by
  refine FC.one (FC.r mix Try.func25 ?_)
  repeat (first | refine And.intro (by kernel_rfl) ?_ | refine And.intro (by decide) ?_)
  refine ALoop.go (X := Nat) (fun i => i ≤ l.length ∧ ∀ j, j < i → tells b s (l.getD j zR) = false) (fun i => l.length - i) [0, 1, 5] [0, 1] (fun i => [(7, int .i64 i)]) (fun _ => []) 0 ⟨Nat.zero_le _, fun j hj => absurd hj (Nat.not_lt_zero _)⟩ ⟨rfl, trivial⟩ trivial ?_
  rintro i ⟨hi, hno⟩
  have ei : 0 + (i : Int).toNat = i := by simp
  dsimp only [headF, headM]
  refine bselD (fun h => ?_) (fun h => ?_)
  · have h' : i < l.length := by have : (i : Int) < l.length := h; omega
    have wi : IntKind.i64.wrap ((i : Int) + 1) = ((i + 1 : Nat) : Int) := wrap64_in (by omega) (by omega)
    have yes : tells b s (l.getD i zR) = true → l.any (tells b s) = true := fun hp => List.any_eq_true.2 ⟨l.getD i zR, by simp [List.getD, h'], hp⟩
    have go : tells b s (l.getD i zR) = false → ∀ j, j < i + 1 → tells b s (l.getD j zR) = false := fun hp j hj => by
      rcases Nat.lt_or_ge j i with h1 | h1
      · exact hno j h1
      · obtain rfl : j = i := by omega
        exact hp
    repeat refine AJoin.plain ?_
    refine And.intro ⟨by omega, h⟩ ?_
    refine And.intro (by show 0 + i < l.length; omega) ?_
    conv => whnf
    rw [ei]
    refine bselE (fun c1 => ?_) (fun c1 => ?_)
    rotate_left
    · repeat (first | refine And.intro (by kernel_rfl) ?_ | refine And.intro (by decide) ?_)
      exact ⟨i + 1, ⟨⟨by omega, go (tells_no fun h => c1 h.1)⟩, by show l.length - (i + 1) < l.length - i; omega⟩, .id ⟨congrArg (int .i64) wi, trivial⟩ rfl trivial rfl⟩
    refine And.intro ⟨by omega, h⟩ ?_
    refine And.intro (by show 0 + i < l.length; omega) ?_
    repeat (first | refine And.intro (by kernel_rfl) ?_ | refine And.intro (by decide) ?_)
    conv => whnf
    rw [ei]
    refine bsel_intro (b := eqS (l.getD i zR).st s) (fun hp => ?_) (fun hp => ?_)
    · repeat (first | refine And.intro (by kernel_rfl) ?_ | refine And.intro (by decide) ?_)
      rw [yes (tells_iff.2 ⟨c1, eqS_iff.1 hp⟩)]
      exact ⟨(), trivial, .id rfl ⟨.inl rfl, trivial⟩⟩
    · repeat (first | refine And.intro (by kernel_rfl) ?_ | refine And.intro (by decide) ?_)
      exact ⟨i + 1, ⟨⟨by omega, go (tells_no fun h => by rw [eqS_iff.2 h.2] at hp; cases hp)⟩, by show l.length - (i + 1) < l.length - i; omega⟩, .id ⟨congrArg (int .i64) wi, trivial⟩ rfl trivial rfl⟩
  · have h1 : l.any (tells b s) = false := by
      rw [List.any_eq_false]
      intro r hr
      obtain ⟨j, hj, rfl⟩ := List.getElem_of_mem hr
      have := hno j (by have : ¬ (i : Int) < l.length := h; omega)
      simpa [List.getD, hj] using this
    rw [h1]
    repeat (first | refine And.intro (by kernel_rfl) ?_ | refine And.intro (by decide) ?_)
    exact ⟨(), trivial, .id rfl ⟨.inl rfl, trivial⟩⟩
end Go.Sx.T1
namespace Go.Sx.T1
open Go.Proofs
structure Ban where
  st : Stt
  next : Int
def zB : Ban := ⟨zS, 0⟩
def banC (b : Ban) : List C := [.v (.bool b.st.valid), .v (.bool b.st.overflow), .v (.int .i64 b.st.outcome), .v (.int .i64 b.st.source), .v (.int .i64 b.st.stamp), .v (.int .i64 b.st.address), .v (.int .u64 b.st.chips), .v (.int .i64 b.next)]
def bans (l : List Ban) (wr : Bool) : Option Blk := some ⟨.rows 8 l.length (fun i => banC (l.getD i zB)), wr⟩
def frB (l : List Rcd) (bs : List Ban) (n : Nat) : Bool := (bs.getD n zB).st.valid && !(l.any (tells n (bs.getD n zB).st))
def frs (l : List Rcd) (bs : List Ban) : Nat → List Int
  | 0 => []
  | n + 1 => frs l bs n ++ (if frB l bs n then [(n : Int)] else [])
theorem frs_len (l : List Rcd) (bs : List Ban) : ∀ n, (frs l bs n).length ≤ n
  | 0 => Nat.le_refl _
  | n + 1 => by
    have := frs_len l bs n
    unfold frs
    split <;> simp <;> omega
theorem frs_yes {l : List Rcd} {bs : List Ban} {n : Nat} (h : frB l bs n = true) : frs l bs (n + 1) = frs l bs n ++ [(n : Int)] := by simp only [frs, h, if_true]
theorem frs_no {l : List Rcd} {bs : List Ban} {n : Nat} (h : frB l bs n = false) : frs l bs (n + 1) = frs l bs n := by simp [frs, h]
def frM (l : List Rcd) (bs : List Ban) (o : List Int) : Mem := [recs l false, bans bs false, i64s o true]
set_option maxHeartbeats 3200000 in
set_option maxRecDepth 10000 in
theorem fresh_fc (l : List Rcd) (bs : List Ban) (hl : l.length ≤ 100000) (hb : bs.length ≤ 100000) : ∃ o : List Int, FC Try.prog 14 [.o (.c (.s 0 0 l.length 16)), .o (.c (.s 1 0 bs.length 8))] [recs l false, bans bs false] (.o (.c (.s 2 0 o.length 1))) (frM l bs o) ∧ o = frs l bs bs.length := by
  refine FC.rj mix Try.func14 ?_
  refine ALoop.goN (X := Nat) (fun i => i ≤ bs.length) (fun i => bs.length - i) [0, 8, 9] [0, 1] (fun i => [(5, .o (.c (.s 2 0 (frs l bs i).length 1))), (10, int .i64 i)])
    (fun i => [(2, ⟨.ints .i64 (frs l bs i), true⟩)]) 0 3 (Nat.zero_le _) (isAt.go [(2, .new 1)] ⟨rfl, rfl, trivial⟩ ⟨newI 1 rfl, trivial⟩) ?_
  intro i hi
  have ei : 0 + (i : Int).toNat = i := by simp
  have fl := frs_len l bs i
  dsimp only [headF, headM]
  refine bselD (fun h => ?_) (fun h => ?_)
  · have h' : i < bs.length := by have : (i : Int) < bs.length := h; omega
    have wi : IntKind.i64.wrap ((i : Int) + 1) = ((i + 1 : Nat) : Int) := wrap64_in (by omega) (by omega)
    repeat refine AJoin.plain ?_
    refine And.intro ⟨by omega, h⟩ ?_
    refine And.intro (by show 0 + i < bs.length; omega) ?_
    repeat (first | refine And.intro (by kernel_rfl) ?_ | refine And.intro (by decide) ?_)
    conv => whnf
    rw [ei]
    refine bsel_intro (b := (bs.getD i zB).st.valid) (fun v1 => ?_) (fun v1 => ?_)
    rotate_left
    · have e := frs_no (l := l) (show frB l bs i = false by simp only [frB, v1, Bool.false_and])
      repeat refine AJoin.plain ?_
      exact ⟨i + 1, ⟨by omega, by show bs.length - (i + 1) < bs.length - i; omega⟩, isAt.go [(2, .to 2)] ⟨congrArg (fun o : List Int => SV.o (.c (.s 2 0 o.length 1))) e.symm, congrArg (int .i64) wi, trivial⟩ ⟨leB.ints_eq e.symm id, trivial⟩⟩
    refine FC.u (known_fc l hl i (bs.getD i zB).st) [0] ?_
    refine bselNot (bsel_intro (fun v2 => ?_) (fun v2 => ?_))
    · have e := frs_no (l := l) (show frB l bs i = false by simp only [frB, v1, v2, Bool.true_and, Bool.not_true])
      repeat refine AJoin.plain ?_
      exact ⟨i + 1, ⟨by omega, by show bs.length - (i + 1) < bs.length - i; omega⟩, isAt.go [(2, .to 2)] ⟨congrArg (fun o : List Int => SV.o (.c (.s 2 0 o.length 1))) e.symm, congrArg (int .i64) wi, trivial⟩ ⟨leB.ints_eq e.symm id, trivial⟩⟩
    · have e := frs_yes (l := l) (show frB l bs i = true by simp only [frB, v1, v2, Bool.true_and, Bool.not_false])
      repeat refine AJoin.plain ?_
      repeat (first | refine And.intro (by kernel_rfl) ?_ | refine And.intro (by decide) ?_)
      refine And.intro ⟨by show 0 + (frs l bs i).length ≤ (frs l bs i).length; omega, trivial⟩ ?_
      refine And.intro ⟨Nat.le_of_ble_eq_true rfl, trivial⟩ ?_
      refine And.intro (by show (frs l bs i).length + 1 ≤ 4294967296; omega) ?_
      repeat (first | refine And.intro (by kernel_rfl) ?_ | refine And.intro (by decide) ?_)
      refine ⟨i + 1, ⟨by omega, by show bs.length - (i + 1) < bs.length - i; omega⟩, isAt.go [(2, .to 5)] ⟨congrArg (fun n : Nat => SV.o (.c (.s 5 0 n 1))) (show (frs l bs i).length + 1 = (frs l bs (i + 1)).length by rw [e]; simp), congrArg (int .i64) wi, trivial⟩ ⟨leB.ints_eq ?_ id, trivial⟩⟩
      show List.take (frs l bs i).length (List.drop 0 (frs l bs i)) ++ List.take 1 (List.drop 0 [(i : Int)]) = frs l bs (i + 1)
      rw [e, List.drop_zero, List.take_length]; rfl
  · obtain rfl : i = bs.length := by have : ¬ (i : Int) < bs.length := h; omega
    repeat (first | refine And.intro (by kernel_rfl) ?_ | refine And.intro (by decide) ?_)
    exact ⟨_, rfl, isEnd.go [(2, .to 2)] rfl ⟨.inl rfl, .inl rfl, .inl rfl, trivial⟩⟩
set_option maxHeartbeats 3200000 in
set_option maxRecDepth 10000 in
theorem refFresh_fc (l : List Rcd) (bs : List Ban) (hl : l.length ≤ 100000) (hb : bs.length ≤ 100000) : ∃ o : List Int, FC Try.prog 27 [.o (.c (.s 0 0 l.length 16)), .o (.c (.s 1 0 bs.length 8))] [recs l false, bans bs false] (.o (.c (.s 2 0 o.length 1))) (frM l bs o) ∧ o = frs l bs bs.length := by
  refine FC.rj mix Try.func27 ?_
  refine ALoop.goN (X := Nat) (fun i => i ≤ bs.length) (fun i => bs.length - i) [0, 1] [0, 1] (fun i => [(5, .o (.c (.s 2 0 (frs l bs i).length 1))), (6, int .i64 i)])
    (fun i => [(2, ⟨.ints .i64 (frs l bs i), true⟩)]) 0 3 (Nat.zero_le _) (isAt.go [(2, .new 1)] ⟨rfl, rfl, trivial⟩ ⟨newI 1 rfl, trivial⟩) ?_
  intro i hi
  have ei : 0 + (i : Int).toNat = i := by simp
  have fl := frs_len l bs i
  dsimp only [headF, headM]
  refine bselD (fun h => ?_) (fun h => ?_)
  · have h' : i < bs.length := by have : (i : Int) < bs.length := h; omega
    have wi : IntKind.i64.wrap ((i : Int) + 1) = ((i + 1 : Nat) : Int) := wrap64_in (by omega) (by omega)
    repeat refine AJoin.plain ?_
    refine And.intro ⟨by omega, h⟩ ?_
    refine And.intro (by show 0 + i < bs.length; omega) ?_
    repeat (first | refine And.intro (by kernel_rfl) ?_ | refine And.intro (by decide) ?_)
    conv => whnf
    rw [ei]
    refine bsel_intro (b := (bs.getD i zB).st.valid) (fun v1 => ?_) (fun v1 => ?_)
    rotate_left
    · have e := frs_no (l := l) (show frB l bs i = false by simp only [frB, v1, Bool.false_and])
      repeat refine AJoin.plain ?_
      exact ⟨i + 1, ⟨by omega, by show bs.length - (i + 1) < bs.length - i; omega⟩, isAt.go [(2, .to 2)] ⟨congrArg (fun o : List Int => SV.o (.c (.s 2 0 o.length 1))) e.symm, congrArg (int .i64) wi, trivial⟩ ⟨leB.ints_eq e.symm id, trivial⟩⟩
    refine And.intro ⟨by omega, h⟩ ?_
    refine And.intro (by show 0 + i < bs.length; omega) ?_
    conv => whnf
    rw [ei]
    refine FC.u (refKnown_fc l hl i (bs.getD i zB).st) [0] ?_
    refine bselNot (bsel_intro (fun v2 => ?_) (fun v2 => ?_))
    · have e := frs_no (l := l) (show frB l bs i = false by simp only [frB, v1, v2, Bool.true_and, Bool.not_true])
      repeat refine AJoin.plain ?_
      exact ⟨i + 1, ⟨by omega, by show bs.length - (i + 1) < bs.length - i; omega⟩, isAt.go [(2, .to 2)] ⟨congrArg (fun o : List Int => SV.o (.c (.s 2 0 o.length 1))) e.symm, congrArg (int .i64) wi, trivial⟩ ⟨leB.ints_eq e.symm id, trivial⟩⟩
    · have e := frs_yes (l := l) (show frB l bs i = true by simp only [frB, v1, v2, Bool.true_and, Bool.not_false])
      repeat refine AJoin.plain ?_
      repeat (first | refine And.intro (by kernel_rfl) ?_ | refine And.intro (by decide) ?_)
      refine And.intro ⟨by show 0 + (frs l bs i).length ≤ (frs l bs i).length; omega, trivial⟩ ?_
      refine And.intro ⟨Nat.le_of_ble_eq_true rfl, trivial⟩ ?_
      refine And.intro (by show (frs l bs i).length + 1 ≤ 4294967296; omega) ?_
      repeat (first | refine And.intro (by kernel_rfl) ?_ | refine And.intro (by decide) ?_)
      refine ⟨i + 1, ⟨by omega, by show bs.length - (i + 1) < bs.length - i; omega⟩, isAt.go [(2, .to 4)] ⟨congrArg (fun n : Nat => SV.o (.c (.s 4 0 n 1))) (show (frs l bs i).length + 1 = (frs l bs (i + 1)).length by rw [e]; simp), congrArg (int .i64) wi, trivial⟩ ⟨leB.ints_eq ?_ id, trivial⟩⟩
      show List.take (frs l bs i).length (List.drop 0 (frs l bs i)) ++ List.take 1 (List.drop 0 [(i : Int)]) = frs l bs (i + 1)
      rw [e, List.drop_zero, List.take_length]; rfl
  · obtain rfl : i = bs.length := by have : ¬ (i : Int) < bs.length := h; omega
    repeat (first | refine And.intro (by kernel_rfl) ?_ | refine And.intro (by decide) ?_)
    exact ⟨_, rfl, isEnd.go [(2, .to 2)] rfl ⟨.inl rfl, .inl rfl, .inl rfl, trivial⟩⟩
end Go.Sx.T1
namespace Go.Sx.T1
open Go.Proofs
def lim (n : Int) : Int := min (max n 0) 65536
def stOk (b nx : Int) (r : Rcd) : Bool := r.bank == b && (decide (r.st.stamp ≥ 0) && decide (r.st.stamp < nx))
/-- the stamps of a bank below a number, each once -/
def dst (l : List Rcd) (b nx : Int) : Nat → List Int
  | 0 => []
  | n + 1 => if stOk b nx (l.getD n zR) = true ∧ (l.getD n zR).st.stamp ∉ dst l b nx n then dst l b nx n ++ [(l.getD n zR).st.stamp] else dst l b nx n
theorem dst_len (l : List Rcd) (b nx : Int) : ∀ n, (dst l b nx n).length ≤ n
  | 0 => Nat.le_refl _
  | n + 1 => by
    have := dst_len l b nx n
    unfold dst
    split <;> simp <;> omega
theorem dst_no {l : List Rcd} {b nx : Int} {n : Nat} (h : stOk b nx (l.getD n zR) = false) : dst l b nx (n + 1) = dst l b nx n := by
  have : ¬ (stOk b nx (l.getD n zR) = true ∧ (l.getD n zR).st.stamp ∉ dst l b nx n) := fun ⟨h1, _⟩ => by rw [h] at h1; cases h1
  simp only [dst, if_neg this]
theorem dst_in {l : List Rcd} {b nx : Int} {n : Nat} (h : (l.getD n zR).st.stamp ∈ dst l b nx n) : dst l b nx (n + 1) = dst l b nx n := by
  have : ¬ (stOk b nx (l.getD n zR) = true ∧ (l.getD n zR).st.stamp ∉ dst l b nx n) := fun ⟨_, h2⟩ => h2 h
  simp only [dst, if_neg this]
theorem dst_new {l : List Rcd} {b nx : Int} {n : Nat} (h : stOk b nx (l.getD n zR) = true) (h2 : (l.getD n zR).st.stamp ∉ dst l b nx n) : dst l b nx (n + 1) = dst l b nx n ++ [(l.getD n zR).st.stamp] := by
  simp only [dst, if_pos (And.intro h h2)]
def mpOf (d : List Int) : List (List Int × Value) := d.map fun s => ([s], .bool true)
theorem mput_mpOf (d : List Int) (s : Int) : mput (mpOf d) [s] (.bool true) = mpOf (if s ∈ d then d else d ++ [s]) := by
  induction d with
  | nil => rfl
  | cons a d ih =>
    unfold mpOf at ih ⊢
    simp only [List.map_cons, mput]
    by_cases h : a = s
    · subst h
      simp
    · have h' : ¬ ([a] = [s]) := fun e => h (by simpa using e)
      rw [if_neg h', ih]
      by_cases hs : s ∈ d
      · simp [hs]
      · simp [hs, Ne.symm h]
theorem dst_put (l : List Rcd) (b nx : Int) (n : Nat) (h : stOk b nx (l.getD n zR) = true) : mput (mpOf (dst l b nx n)) [(l.getD n zR).st.stamp] (.bool true) = mpOf (dst l b nx (n + 1)) := by
  rw [mput_mpOf]
  by_cases hs : (l.getD n zR).st.stamp ∈ dst l b nx n
  · rw [if_pos hs, dst_in hs]
  · rw [if_neg hs, dst_new h hs]
def msd (l : List Rcd) (b next : Int) : Int := IntKind.i64.wrap (lim next - ((dst l b (lim next) l.length).length : Nat))
set_option maxHeartbeats 3200000 in
set_option maxRecDepth 10000 in
theorem missed_fc (l : List Rcd) (hl : l.length ≤ 100000) (b next : Int) : FC Try.prog 16 [.o (.c (.s 0 0 l.length 16)), int .i64 b, int .i64 next] [recs l false] (int .i64 (msd l b next)) [recs l false] := by
  refine FC.one (FC.r mix Try.func16 ?_)
  repeat (first | refine And.intro (by kernel_rfl) ?_ | refine And.intro (by decide) ?_)
  conv => whnf
  have e : (if true = true then (if 65536 < (if false = true then (if 0 < next then 0 else next) else (if 0 > next then 0 else next)) then 65536 else (if false = true then (if 0 < next then 0 else next) else (if 0 > next then 0 else next))) else (if 65536 > (if false = true then (if 0 < next then 0 else next) else (if 0 > next then 0 else next)) then 65536 else (if false = true then (if 0 < next then 0 else next) else (if 0 > next then 0 else next)))) = lim next := by
    simp only [if_true, Bool.false_eq_true, if_false, lim]
    repeat' split
    all_goals omega
  rw [e]
  generalize hq : lim next = q
  have bq : 0 ≤ q ∧ q ≤ 65536 := by rw [← hq]; unfold lim; omega
  refine ALoop.go (X := Nat) (fun i => i ≤ l.length) (fun i => l.length - i) [0, 1, 2, 7, 15, 16] [0] (fun i => [(17, int .i64 i)]) (fun i => [(1, ⟨.map true (mpOf (dst l b q i)), true⟩)]) 0 (Nat.zero_le _) ⟨rfl, trivial⟩ ⟨.inl rfl, trivial⟩ ?_
  rintro i hi
  have ei : 0 + (i : Int).toNat = i := by simp
  dsimp only [headF, headM]
  refine bselD (fun h => ?_) (fun h => ?_)
  · have h' : i < l.length := by have : (i : Int) < l.length := h; omega
    have wi : IntKind.i64.wrap ((i : Int) + 1) = ((i + 1 : Nat) : Int) := wrap64_in (by omega) (by omega)
    repeat refine AJoin.plain ?_
    refine And.intro ⟨by omega, h⟩ ?_
    refine And.intro (by show 0 + i < l.length; omega) ?_
    repeat (first | refine And.intro (by kernel_rfl) ?_ | refine And.intro (by decide) ?_)
    conv => whnf
    rw [ei]
    clear e
    refine bselE (fun c1 => ?_) (fun c1 => ?_)
    rotate_left
    · have e := dst_no (l := l) (b := b) (nx := q) (n := i) (by simp only [stOk, beq_false_of_ne c1, Bool.false_and])
      repeat refine AJoin.plain ?_
      exact ⟨i + 1, ⟨by omega, by show l.length - (i + 1) < l.length - i; omega⟩, .id ⟨congrArg (int .i64) wi, trivial⟩ rfl ⟨.inl (congrArg (fun d => some (⟨.map true (mpOf d), true⟩ : Blk)) e.symm), trivial⟩ rfl⟩
    refine bselD (fun c2 => ?_) (fun c2 => ?_)
    rotate_left
    · have e := dst_no (l := l) (b := b) (nx := q) (n := i) (by simp only [stOk, decide_eq_false c2, Bool.false_and, Bool.and_false])
      repeat refine AJoin.plain ?_
      exact ⟨i + 1, ⟨by omega, by show l.length - (i + 1) < l.length - i; omega⟩, .id ⟨congrArg (int .i64) wi, trivial⟩ rfl ⟨.inl (congrArg (fun d => some (⟨.map true (mpOf d), true⟩ : Blk)) e.symm), trivial⟩ rfl⟩
    refine bselD (fun c3 => ?_) (fun c3 => ?_)
    rotate_left
    · have e := dst_no (l := l) (b := b) (nx := q) (n := i) (by simp only [stOk, decide_eq_false c3, Bool.and_false])
      repeat refine AJoin.plain ?_
      exact ⟨i + 1, ⟨by omega, by show l.length - (i + 1) < l.length - i; omega⟩, .id ⟨congrArg (int .i64) wi, trivial⟩ rfl ⟨.inl (congrArg (fun d => some (⟨.map true (mpOf d), true⟩ : Blk)) e.symm), trivial⟩ rfl⟩
    · have e := dst_put l b q i (by simp only [stOk, c1, beq_self_eq_true, decide_eq_true c2, decide_eq_true c3, Bool.and_self])
      repeat refine AJoin.plain ?_
      repeat (first | refine And.intro (by kernel_rfl) ?_ | refine And.intro (by decide) ?_)
      exact ⟨i + 1, ⟨by omega, by show l.length - (i + 1) < l.length - i; omega⟩, .id ⟨congrArg (int .i64) wi, trivial⟩ rfl ⟨.inl (congrArg (fun d => some (⟨.map true d, true⟩ : Blk)) e), trivial⟩ rfl⟩
  · obtain rfl : i = l.length := by have : ¬ (i : Int) < l.length := h; omega
    repeat (first | refine And.intro (by kernel_rfl) ?_ | refine And.intro (by decide) ?_)
    refine ⟨(), trivial, .id (congrArg (int .i64) ?_) ⟨.inl rfl, trivial⟩⟩
    show IntKind.i64.wrap (q - ((mpOf (dst l b q l.length)).length : Nat)) = msd l b next
    rw [msd, hq, mpOf, List.length_map]
end Go.Sx.T1
namespace Go.Sx.T1
open Go.Proofs
def bl (d : List Int) (N : Nat) : List Bool := (List.range N).map fun j : Nat => decide ((j : Int) ∈ d)
theorem bl_len (d : List Int) (N : Nat) : (bl d N).length = N := by simp [bl]
theorem bl_nil (N : Nat) : List.replicate N false = bl [] N := by
  apply List.ext_getElem
  · simp [bl]
  · intro i h1 h2; simp [bl]
theorem bl_get (d : List Int) {N j : Nat} (h : j < N) : (bl d N).getD j false = decide ((j : Int) ∈ d) := by simp [bl, List.getD, h]
theorem bl_set (d : List Int) {N j : Nat} (h : j < N) : (bl d N).set j true = bl (d ++ [(j : Int)]) N := by
  apply List.ext_getElem
  · simp [bl]
  · intro i h1 h2
    simp only [bl, List.getElem_set, List.getElem_map, List.getElem_range]
    by_cases e : j = i
    · subst e; simp
    · have : ¬ ((i : Int) = j) := by omega
      simp [e, this]
theorem dst_zero (l : List Rcd) (b : Int) : ∀ n, dst l b 0 n = []
  | 0 => rfl
  | n + 1 => by
    rw [dst_no, dst_zero l b n]
    cases h : stOk b 0 (l.getD n zR) with
    | false => rfl
    | true => simp only [stOk, Bool.and_eq_true, decide_eq_true_eq] at h; omega
theorem msd_neg (l : List Rcd) (b : Int) {next : Int} (h : next < 0) : msd l b next = 0 := by
  have e : lim next = 0 := by unfold lim; omega
  rw [msd, e, dst_zero]; rfl
set_option maxHeartbeats 3200000 in
set_option maxRecDepth 10000 in
theorem refMissed_fc (l : List Rcd) (hl : l.length ≤ 100000) (b next : Int) : FC Try.prog 28 [.o (.c (.s 0 0 l.length 16)), int .i64 b, int .i64 next] [recs l false] (int .i64 (msd l b next)) [recs l false] := by
  refine FC.one (FC.rj mix Try.func28 ?_)
  refine bselD (fun h0 => ?_) (fun h0 => ?_)
  · repeat (first | refine And.intro (by kernel_rfl) ?_ | refine And.intro (by decide) ?_)
    exact ⟨(), trivial, .id (congrArg (int .i64) (msd_neg l b h0).symm) ⟨.inl rfl, trivial⟩⟩
  refine AJoin.cut (X := Int) (fun q => lim next = q) [0, 1, 6] [0] (fun q => [(2, int .i64 q)]) (fun _ => []) ?_ ?_
  · refine bselD (fun h1 => ?_) (fun h1 => ?_)
    · have hq : lim next = 65536 := by unfold lim; omega
      repeat (first | refine And.intro (by kernel_rfl) ?_ | refine And.intro (by decide) ?_)
      exact ⟨65536, hq, .id ⟨rfl, trivial⟩ rfl trivial rfl⟩
    · have hq : lim next = next := by unfold lim; omega
      repeat (first | refine And.intro (by kernel_rfl) ?_ | refine And.intro (by decide) ?_)
      exact ⟨next, hq, .id ⟨rfl, trivial⟩ rfl trivial rfl⟩
  · intro q hq
    have bq : 0 ≤ q ∧ q ≤ 65536 := by rw [← hq]; unfold lim; omega
    refine And.intro ⟨by omega, rfl, by omega⟩ ?_
    conv => whnf
    rw [bl_nil]
    refine ALoop.go (X := Nat) (fun i => i ≤ l.length) (fun i => l.length - i) [0, 1, 2, 7] [0] (fun i => [(8, int .i64 (q - ((dst l b q i).length : Nat))), (9, int .i64 i)]) (fun i => [(1, ⟨.bools (bl (dst l b q i) (q : Int).toNat), true⟩)]) 0 (Nat.zero_le _) ⟨congrArg (int .i64) (show (q : Int) = q - ((0 : Nat) : Int) by omega), rfl, trivial⟩ ⟨.inl rfl, trivial⟩ ?_
    rintro i hi
    have ei : 0 + (i : Int).toNat = i := by simp
    have dl := dst_len l b q i
    dsimp only [headF, headM]
    refine bselD (fun h => ?_) (fun h => ?_)
    · have h' : i < l.length := by have : (i : Int) < l.length := h; omega
      have wi : IntKind.i64.wrap ((i : Int) + 1) = ((i + 1 : Nat) : Int) := wrap64_in (by omega) (by omega)
      have stay : dst l b q (i + 1) = dst l b q i → SV.o (.c (.v (.int .i64 (q - ((dst l b q i).length : Nat))))) = int .i64 (q - ((dst l b q (i + 1)).length : Nat)) ∧ (some (⟨.bools (bl (dst l b q i) (q : Int).toNat), true⟩ : Blk)) = some ⟨.bools (bl (dst l b q (i + 1)) (q : Int).toNat), true⟩ := fun e => by rw [e]; exact ⟨rfl, rfl⟩
      repeat refine AJoin.plain ?_
      refine And.intro ⟨by omega, h⟩ ?_
      refine And.intro (by show 0 + i < l.length; omega) ?_
      repeat (first | refine And.intro (by kernel_rfl) ?_ | refine And.intro (by decide) ?_)
      conv => whnf
      rw [ei]
      refine And.intro ⟨by omega, h⟩ ?_
      refine And.intro h' ?_
      refine bselE (fun c1 => ?_) (fun c1 => ?_)
      rotate_left
      · obtain ⟨e1, e2⟩ := stay (dst_no (n := i) (by simp only [stOk, beq_false_of_ne c1, Bool.false_and]))
        repeat refine AJoin.plain ?_
        exact ⟨i + 1, ⟨by omega, by show l.length - (i + 1) < l.length - i; omega⟩, .id ⟨e1, congrArg (int .i64) wi, trivial⟩ rfl ⟨.inl e2, trivial⟩ rfl⟩
      refine bselD (fun c2 => ?_) (fun c2 => ?_)
      rotate_left
      · obtain ⟨e1, e2⟩ := stay (dst_no (n := i) (by simp only [stOk, decide_eq_false c2, Bool.false_and, Bool.and_false]))
        repeat refine AJoin.plain ?_
        exact ⟨i + 1, ⟨by omega, by show l.length - (i + 1) < l.length - i; omega⟩, .id ⟨e1, congrArg (int .i64) wi, trivial⟩ rfl ⟨.inl e2, trivial⟩ rfl⟩
      refine bselD (fun c3 => ?_) (fun c3 => ?_)
      rotate_left
      · obtain ⟨e1, e2⟩ := stay (dst_no (n := i) (by simp only [stOk, decide_eq_false c3, Bool.and_false]))
        repeat refine AJoin.plain ?_
        exact ⟨i + 1, ⟨by omega, by show l.length - (i + 1) < l.length - i; omega⟩, .id ⟨e1, congrArg (int .i64) wi, trivial⟩ rfl ⟨.inl e2, trivial⟩ rfl⟩
      have ok : stOk b q (l.getD i zR) = true := by simp only [stOk, c1, beq_self_eq_true, decide_eq_true c2, decide_eq_true c3, Bool.and_self]
      have hs : ∃ s : Nat, (l.getD i zR).st.stamp = s := ⟨(l.getD i zR).st.stamp.toNat, by omega⟩
      obtain ⟨s, hs⟩ := hs
      have hsN : s < (q : Int).toNat := by omega
      refine And.intro ⟨by omega, by omega⟩ ?_
      refine And.intro (by show 0 + ((l.getD i zR).st.stamp).toNat < (bl (dst l b q i) (q : Int).toNat).length; rw [bl_len]; omega) ?_
      have es : 0 + (l.getD i zR).st.stamp.toNat = s := by omega
      have eg : (bl (dst l b q i) (q : Int).toNat).getD (0 + (l.getD i zR).st.stamp.toNat) false = decide ((l.getD i zR).st.stamp ∈ dst l b q i) := by rw [es, bl_get _ hsN, hs]
      refine bselNot (bsel_intro (fun c4 => ?_) (fun c4 => ?_)) <;> rw [eg] at c4
      · obtain ⟨e1, e2⟩ := stay (dst_in (n := i) (of_decide_eq_true c4))
        repeat refine AJoin.plain ?_
        exact ⟨i + 1, ⟨by omega, by show l.length - (i + 1) < l.length - i; omega⟩, .id ⟨e1, congrArg (int .i64) wi, trivial⟩ rfl ⟨.inl e2, trivial⟩ rfl⟩
      · have e := dst_new ok (of_decide_eq_false c4)
        repeat refine AJoin.plain ?_
        refine And.intro ⟨by omega, by omega⟩ ?_
        refine And.intro (by show 0 + ((l.getD i zR).st.stamp).toNat < (bl (dst l b q i) (q : Int).toNat).length; rw [bl_len]; omega) ?_
        refine ⟨i + 1, ⟨by omega, by show l.length - (i + 1) < l.length - i; omega⟩, .id ⟨congrArg (int .i64) ?_, congrArg (int .i64) wi, trivial⟩ rfl ⟨.inl (congrArg (fun d => some (⟨.bools d, true⟩ : Blk)) ?_), trivial⟩ rfl⟩
        · show IntKind.i64.wrap (q - ((dst l b q i).length : Nat) - 1) = q - ((dst l b q (i + 1)).length : Nat)
          rw [e, wrap64_in (by omega) (by omega)]
          simp; omega
        · show (bl (dst l b q i) (q : Int).toNat).set (0 + (l.getD i zR).st.stamp.toNat) true = bl (dst l b q (i + 1)) (q : Int).toNat
          rw [es, bl_set _ hsN, e, hs]
    · obtain rfl : i = l.length := by have : ¬ (i : Int) < l.length := h; omega
      repeat (first | refine And.intro (by kernel_rfl) ?_ | refine And.intro (by decide) ?_)
      refine ⟨(), trivial, .id (congrArg (int .i64) ?_) ⟨.inl rfl, trivial⟩⟩
      show q - ((dst l b q l.length).length : Nat) = msd l b next
      rw [msd, hq, wrap64_in (by omega) (by omega)]
end Go.Sx.T1
namespace Go.Sx.T1
open Go.Proofs
def s0 : Stt := ⟨true, false, 1, 0, 2, 0, 0⟩
def r0 : Rcd := ⟨1, 0, 0, ⟨true, false, 1, 0, 2, 0, 0⟩, ⟨0, 0, 0, 0, 0, 0⟩⟩
def b3 : List Ban := [⟨⟨true, false, 1, 0, 2, 0, 0⟩, 0⟩, ⟨⟨true, false, 1, 0, 2, 0, 0⟩, 0⟩, ⟨⟨false, false, 0, 0, 0, 0, 0⟩, 0⟩]
theorem fresh0 : FC Try.prog 14 [.o (.c (.s 0 0 1 16)), .o (.c (.s 1 0 3 8))] [recs [r0] false, bans b3 false] (.o (.c (.s 2 0 1 1))) [recs [r0] false, bans b3 false, i64s [1] true] := by
  obtain ⟨o, h, e⟩ := fresh_fc [r0] b3 (by decide) (by decide)
  have : o = [1] := e.trans (by decide +kernel)
  subst this
  exact h
theorem known0 (b : Int) (c : Bool) (h : (b == 0) = c) : FC Try.prog 22 [.o (.c (.s 0 0 1 16)), int .i64 b, .o (.a (stC s0))] [recs [r0] false] (boo c) [recs [r0] false] := by
  have := known_fc [r0] (by decide) b s0
  rw [show ([r0].any (tells b s0)) = c by rw [← h]; simp [tells, r0, s0, eqS]] at this
  exact this
theorem missed0 : FC Try.prog 16 [.o (.c (.s 0 0 1 16)), int .i64 0, int .i64 3] [recs [r0] false] (int .i64 2) [recs [r0] false] := by
  have := missed_fc [r0] (by decide) 0 3
  rw [show msd [r0] 0 3 = 2 by decide +kernel] at this
  exact this
theorem msd_nil (b n : Int) : msd [] b n = lim n := by
  show IntKind.i64.wrap (lim n - ((0 : Nat) : Int)) = lim n
  rw [wrap64_in (by unfold lim; omega) (by unfold lim; omega)]; omega
theorem missedN (b n : Int) : FC Try.prog 16 [.o (.c (.s 0 0 0 16)), int .i64 b, int .i64 n] [recs [] false] (int .i64 (lim n)) [recs [] false] := by
  have := missed_fc [] (by decide) b n
  rw [msd_nil] at this
  exact this
set_option maxHeartbeats 3200000 in
set_option maxRecDepth 10000 in
theorem awake_fc : FC Try.prog 9 [] [] (boo true) [] := by
  refine FC.one (FC.r mix Try.func9 ?_)
  repeat (first | refine And.intro (by kernel_rfl) ?_ | refine And.intro (by decide) ?_)
  refine FC.u fresh0 [1, 2] ?_ (hrd := ?_)
  rotate_left
  · refine ⟨.inr (.inr (leB.rows (Nat.le_refl _) (fun i hi => ?_) (fun h => by cases h))), .inr (.inr (leB.rows (Nat.le_refl _) (fun i hi => ?_) (fun h => by cases h))), trivial⟩
    · have hi' : i < 1 := hi
      obtain rfl : i = 0 := by omega
      rfl
    · have hi' : i < 3 := hi
      obtain rfl | rfl | rfl : i = 0 ∨ i = 1 ∨ i = 2 := by omega
      · rfl
      · rfl
      · rfl
  repeat (first | refine And.intro (by kernel_rfl) ?_ | refine And.intro (by decide) ?_)
  refine FC.u (known0 0 true rfl) [1] ?_ (hrd := ?_)
  rotate_left
  · refine ⟨.inr (.inr (leB.rows (Nat.le_refl _) (fun i hi => ?_) (fun h => by cases h))), trivial⟩
    have hi' : i < 1 := hi
    obtain rfl : i = 0 := by omega
    rfl
  repeat (first | refine And.intro (by kernel_rfl) ?_ | refine And.intro (by decide) ?_)
  refine FC.u (known0 1 false rfl) [1] ?_ (hrd := ?_)
  rotate_left
  · refine ⟨.inr (.inr (leB.rows (Nat.le_refl _) (fun i hi => ?_) (fun h => by cases h))), trivial⟩
    have hi' : i < 1 := hi
    obtain rfl : i = 0 := by omega
    rfl
  repeat (first | refine And.intro (by kernel_rfl) ?_ | refine And.intro (by decide) ?_)
  refine FC.u missed0 [1] ?_ (hrd := ?_)
  rotate_left
  · refine ⟨.inr (.inr (leB.rows (Nat.le_refl _) (fun i hi => ?_) (fun h => by cases h))), trivial⟩
    have hi' : i < 1 := hi
    obtain rfl : i = 0 := by omega
    rfl
  repeat (first | refine And.intro (by kernel_rfl) ?_ | refine And.intro (by decide) ?_)
  refine acall.nilAt 0 0 16 (.rows 16 0 (fun i => rcC (([] : List Rcd).getD i zR))) ?_
  refine FC.u (missedN 0 3) [4] ?_
  repeat (first | refine And.intro (by kernel_rfl) ?_ | refine And.intro (by decide) ?_)
  exact ⟨(), trivial, .id rfl trivial⟩
end Go.Sx.T1
namespace Go.Sx.T1
open Go.Proofs
noncomputable def okB (r : Rcd) : Bool := @decide (RcOk r) (Classical.propDecidable _)
theorem okB_iff {r : Rcd} : okB r = true ↔ RcOk r := by simp [okB]
theorem valid_is (r : Rcd) : FC Try.prog 37 [.o (.a (rcC r))] [] (boo (okB r)) [] := by
  obtain ⟨b, h, e⟩ := recValid_fc r
  have : b = okB r := by rw [Bool.eq_iff_iff, e, okB_iff]
  rw [← this]; exact h
theorem refValid_is (r : Rcd) : FC Try.prog 34 [.o (.a (rcC r))] [] (boo (okB r)) [] := by
  obtain ⟨b, h, e⟩ := refValid_fc r
  have : b = okB r := by rw [Bool.eq_iff_iff, e, okB_iff]
  rw [← this]; exact h
set_option maxHeartbeats 3200000 in
set_option maxRecDepth 10000 in
theorem wrong1_fc (r : Rcd) : FC Try.prog 36 [.o (.a (rcC r))] [] (boo (!okB r)) [] := by
  refine FC.one (FC.r mix Try.func36 ?_)
  repeat (first | refine And.intro (by kernel_rfl) ?_ | refine And.intro (by decide) ?_)
  refine FC.u (valid_is r) [] ?_
  repeat (first | refine And.intro (by kernel_rfl) ?_ | refine And.intro (by decide) ?_)
  exact ⟨(), trivial, .id rfl trivial⟩
abbrev wfn : Nat := 36
noncomputable def badR (r : Rcd) : Bool := !okB r
set_option maxHeartbeats 3200000 in
set_option maxRecDepth 10000 in
theorem idxWr (l : List Rcd) (hl : l.length ≤ 100000)  : ∃ n : Int, FC Try.prog 38 [.o (.c (.s 0 0 l.length 16)), .o (.c (.v (.func (.func wfn) #[] #[])))] [recs l false] (int .i64 n) [recs l false] ∧ decide (n ≥ 0) = l.any badR := by
  refine FC.rj mix Try.func38 ?_
  refine ALoop.go (X := Nat) (fun i => i ≤ l.length ∧ ∀ j, j < i → badR (l.getD j zR) = false) (fun i => l.length - i) [0, 1, 6, 7] [0] (fun i => [(8, int .i64 i)]) (fun _ => []) 0 ⟨Nat.zero_le _, fun j hj => absurd hj (Nat.not_lt_zero _)⟩ ⟨rfl, trivial⟩ trivial ?_
  rintro i ⟨hi, hno⟩
  dsimp only [headF, headM]
  refine bselD (fun h => ?_) (fun h => ?_)
  · have h' : i < l.length := by have : (i : Int) < l.length := h; omega
    have wi : IntKind.i64.wrap ((i : Int) + 1) = ((i + 1 : Nat) : Int) := wrap64_in (by omega) (by omega)
    repeat refine AJoin.plain ?_
    refine And.intro ⟨by omega, by show (i : Int) < l.length; exact h⟩ ?_
    refine And.intro (by show 0 + i < l.length; omega) ?_
    refine FC.u (wrong1_fc (l.getD (0 + (i : Int).toNat) zR)) [] ?_
    repeat refine AJoin.plain ?_
    have ei : 0 + (i : Int).toNat = i := by simp
    refine bsel_intro (fun hp => ?_) (fun hp => ?_) <;> rw [ei] at hp
    · refine ⟨(i : Int), ?_, .id rfl ⟨.inl rfl, trivial⟩⟩
      have h1 : l.any badR = true := List.any_eq_true.2 ⟨l.getD i zR, by simp [List.getD, h'], hp⟩
      rw [h1]
      exact decide_eq_true (by omega)
    · refine ⟨i + 1, ⟨⟨by omega, fun j hj => ?_⟩, by show l.length - (i + 1) < l.length - i; omega⟩, .id ⟨congrArg (int .i64) wi, trivial⟩ rfl trivial rfl⟩
      rcases Nat.lt_or_ge j i with h1 | h1
      · exact hno j h1
      · obtain rfl : j = i := by omega
        exact hp
  · repeat (first | refine And.intro (by kernel_rfl) ?_ | refine And.intro (by decide) ?_)
    refine ⟨-1, ?_, .id rfl ⟨.inl rfl, trivial⟩⟩
    have h1 : l.any badR = false := by
      rw [List.any_eq_false]
      intro r hr
      obtain ⟨j, hj, rfl⟩ := List.getElem_of_mem hr
      have := hno j (by have : ¬ (i : Int) < l.length := h; omega)
      simpa [List.getD, hj] using this
    rw [h1]
    rfl
set_option maxHeartbeats 3200000 in
set_option maxRecDepth 10000 in
theorem containsWr_fc (l : List Rcd) (hl : l.length ≤ 100000) : FC Try.prog 31 [.o (.c (.s 0 0 l.length 16)), .o (.c (.v (.func (.func wfn) #[] #[])))] [recs l false] (boo (l.any badR)) [recs l false] := by
  refine FC.one (FC.r mix Try.func31 ?_)
  refine FC.x (idxWr l hl) [0] (fun n hn => ?_)
  repeat (first | refine And.intro (by kernel_rfl) ?_ | refine And.intro (by decide) ?_)
  exact ⟨(), trivial, .id (congrArg boo hn) ⟨.inl rfl, trivial⟩⟩
/-- numbers that do not ascend: the first place -/
def dwn (l : List Rcd) (i : Nat) : Bool := decide ((l.getD i zR).seq ≤ (l.getD (i - 1) zR).seq)
def ascB (l : List Rcd) : Bool := (List.range l.length).all fun i => i == 0 || !dwn l i
theorem asc_yes {l : List Rcd} (h : ∀ j, 0 < j → j < l.length → dwn l j = false) : ascB l = true := by
  unfold ascB
  rw [List.all_eq_true]
  intro i hi
  rw [List.mem_range] at hi
  rcases Nat.eq_zero_or_pos i with rfl | h0
  · rfl
  · simp [h i h0 hi]
theorem asc_no {l : List Rcd} {i : Nat} (h0 : 0 < i) (hi : i < l.length) (h : dwn l i = true) : ascB l = false := by
  unfold ascB
  rw [List.all_eq_false]
  exact ⟨i, List.mem_range.2 hi, by simp [h]; omega⟩
set_option maxHeartbeats 3200000 in
set_option maxRecDepth 10000 in
theorem ascends_fc (l : List Rcd) (hl : l.length ≤ 100000) : FC Try.prog 35 [.o (.c (.s 0 0 l.length 16))] [recs l false] (boo (ascB l)) [recs l false] := by
  refine FC.one (FC.rj mix Try.func35 ?_)
  refine ALoop.go (X := Nat) (fun i => 1 ≤ i ∧ ∀ j, 0 < j → j < i → j < l.length → dwn l j = false) (fun i => l.length - i) [0] [0] (fun i => [(3, int .i64 i)]) (fun _ => []) 1 ⟨Nat.le_refl _, fun j h1 h2 => by omega⟩ ⟨rfl, trivial⟩ trivial ?_
  rintro i ⟨hi, hno⟩
  dsimp only [headF, headM]
  refine bselD (fun h => ?_) (fun h => ?_)
  · have h' : i < l.length := by have : (i : Int) < l.length := h; omega
    have ei : 0 + (i : Int).toNat = i := by simp
    have wi : IntKind.i64.wrap ((i : Int) + 1) = ((i + 1 : Nat) : Int) := wrap64_in (by omega) (by omega)
    have w1 : IntKind.i64.wrap ((i : Int) - 1) = ((i - 1 : Nat) : Int) := by rw [wrap64_in (by omega) (by omega)]; omega
    have ei1 : 0 + ((i - 1 : Nat) : Int).toNat = i - 1 := by simp
    repeat refine AJoin.plain ?_
    refine And.intro ⟨by omega, h⟩ ?_
    refine And.intro (by show 0 + i < l.length; omega) ?_
    conv => whnf
    rw [ei, w1]
    refine And.intro ⟨by omega, by omega⟩ ?_
    refine And.intro (by show 0 + (i - 1) < l.length; omega) ?_
    conv => whnf
    rw [ei1]
    repeat (first | refine And.intro (by kernel_rfl) ?_ | refine And.intro (by decide) ?_)
    refine bselD (fun c => ?_) (fun c => ?_)
    · repeat (first | refine And.intro (by kernel_rfl) ?_ | refine And.intro (by decide) ?_)
      rw [asc_no (by omega) h' (decide_eq_true c)]
      exact ⟨(), trivial, .id rfl ⟨.inl rfl, trivial⟩⟩
    · repeat (first | refine And.intro (by kernel_rfl) ?_ | refine And.intro (by decide) ?_)
      refine ⟨i + 1, ⟨⟨by omega, fun j h1 h2 h3 => ?_⟩, by show l.length - (i + 1) < l.length - i; omega⟩, .id ⟨congrArg (int .i64) wi, trivial⟩ rfl trivial rfl⟩
      rcases Nat.lt_or_ge j i with h4 | h4
      · exact hno j h1 h4 h3
      · obtain rfl : j = i := by omega
        exact decide_eq_false c
  · repeat (first | refine And.intro (by kernel_rfl) ?_ | refine And.intro (by decide) ?_)
    rw [asc_yes fun j h1 h2 => hno j h1 (by have : ¬ (i : Int) < l.length := h; omega) h2]
    exact ⟨(), trivial, .id rfl ⟨.inl rfl, trivial⟩⟩
end Go.Sx.T1
namespace Go.Sx.T1
open Go.Proofs
def twoR (a b : List Rcd) (i : Nat) : List C := match i with
  | 0 => [.s 0 0 a.length 16]
  | _ + 1 => [.s 1 0 b.length 16]
def twoB (a b : List Rcd) : Option Blk := some ⟨.rows 1 2 (twoR a b), false⟩
theorem two_ok (a b : List Rcd) (g : Nat) (hg : 2 ≤ g) (i : Nat) : (twoR a b i).all (bC g) = true := by
  cases i with
  | zero => simp [twoR, bC]; omega
  | succ i => simp [twoR, bC]; omega
noncomputable def wrF (a b : List Rcd) : Int := if a.any badR = true then 1 else if b.any badR = true then 1 else if ascB a = false then 17 else if ascB b = false then 17 else 0
set_option maxHeartbeats 3200000 in
set_option maxRecDepth 10000 in
theorem wrong_fc (a b : List Rcd) (ha : a.length ≤ 100000) (hb : b.length ≤ 100000) : ∃ e : Int, FC Try.prog 30 [.o (.c (.s 2 0 2 1))] [recs a false, recs b false, twoB a b] (int .i64 e) [recs a false, recs b false, twoB a b] ∧ e = wrF a b := by
  refine FC.rj mix Try.func30 ?_ (hs := ?_)
  rotate_left
  · intro e _
    exact ⟨Nat.le_of_ble_eq_true rfl, rfl, fun _ _ => rfl, fun _ _ => rfl, fun i _ => two_ok a b 3 (by omega) i, trivial⟩
  refine ALoop.go (X := Nat) (fun i => i ≤ 2 ∧ (1 ≤ i → a.any badR = false) ∧ (2 ≤ i → b.any badR = false)) (fun i => 2 - i) [0, 2, 8, 9] [0, 1, 2] (fun i => [(10, int .i64 i)]) (fun _ => []) 0 ⟨Nat.zero_le _, fun h => by omega, fun h => by omega⟩ ⟨rfl, trivial⟩ trivial ?_ (hs := fun _ => ⟨Nat.le_of_ble_eq_true rfl, rfl, fun _ _ => rfl, fun _ _ => rfl, fun i _ => two_ok a b 3 (by omega) i, trivial⟩)
  rintro i ⟨hi, h1, h2⟩
  dsimp only [headF, headM]
  refine bselD (fun h => ?_) (fun h => ?_)
  · have h' : i < 2 := by have : (i : Int) < 2 := h; omega
    have wi : IntKind.i64.wrap ((i : Int) + 1) = ((i + 1 : Nat) : Int) := wrap64_in (by omega) (by omega)
    repeat refine AJoin.plain ?_
    obtain rfl | rfl : i = 0 ∨ i = 1 := by omega
    · repeat (first | refine And.intro (by kernel_rfl) ?_ | refine And.intro (by decide) ?_)
      refine FC.u (containsWr_fc a ha) [0] ?_
      refine bsel_intro (fun c => ?_) (fun c => ?_)
      · repeat (first | refine And.intro (by kernel_rfl) ?_ | refine And.intro (by decide) ?_)
        exact ⟨1, by simp only [wrF, if_pos c], .id rfl ⟨.inl rfl, .inl rfl, .inl rfl, trivial⟩⟩
      · repeat (first | refine And.intro (by kernel_rfl) ?_ | refine And.intro (by decide) ?_)
        exact ⟨1, ⟨⟨by omega, fun _ => c, fun h => by omega⟩, by decide⟩, .id ⟨congrArg (int .i64) wi, trivial⟩ rfl trivial rfl⟩
    · repeat (first | refine And.intro (by kernel_rfl) ?_ | refine And.intro (by decide) ?_)
      refine FC.u (containsWr_fc b hb) [1] ?_
      refine bsel_intro (fun c => ?_) (fun c => ?_)
      · repeat (first | refine And.intro (by kernel_rfl) ?_ | refine And.intro (by decide) ?_)
        exact ⟨1, by simp only [wrF, h1 (Nat.le_refl _), Bool.false_eq_true, if_false, if_pos c], .id rfl ⟨.inl rfl, .inl rfl, .inl rfl, trivial⟩⟩
      · repeat (first | refine And.intro (by kernel_rfl) ?_ | refine And.intro (by decide) ?_)
        exact ⟨2, ⟨⟨by omega, fun _ => h1 (by omega), fun _ => c⟩, by decide⟩, .id ⟨congrArg (int .i64) wi, trivial⟩ rfl trivial rfl⟩
  · obtain rfl : i = 2 := by have : ¬ (i : Int) < 2 := h; omega
    have va := h1 (by omega)
    have vb := h2 (by omega)
    refine ALoop.go (X := Nat) (fun i => i ≤ 2 ∧ (1 ≤ i → ascB a = true) ∧ (2 ≤ i → ascB b = true)) (fun i => 2 - i) [0, 2, 17, 18] [0, 1, 2] (fun i => [(19, int .i64 i)]) (fun _ => []) 0 ⟨Nat.zero_le _, fun h => by omega, fun h => by omega⟩ ⟨rfl, trivial⟩ trivial ?_ (hs := fun _ => ⟨Nat.le_of_ble_eq_true rfl, rfl, fun _ _ => rfl, fun _ _ => rfl, fun i _ => two_ok a b 3 (by omega) i, trivial⟩)
    rintro i ⟨hi, h3, h4⟩
    dsimp only [headF, headM]
    refine bselD (fun h => ?_) (fun h => ?_)
    · have h' : i < 2 := by have : (i : Int) < 2 := h; omega
      have wi0 : IntKind.i64.wrap ((i : Int) + 1) = ((i + 1 : Nat) : Int) := wrap64_in (by omega) (by omega)
      repeat refine AJoin.plain ?_
      obtain rfl | rfl : i = 0 ∨ i = 1 := by omega
      · repeat (first | refine And.intro (by kernel_rfl) ?_ | refine And.intro (by decide) ?_)
        refine ALoop.go (X := Nat) (fun i => 1 ≤ i ∧ ∀ j, 0 < j → j < i → j < (a).length → dwn a j = false) (fun i => (a).length - i) [0, 2, 6, 17, 18, 19] [0, 1, 2] (fun i => [(7, int .i64 i)]) (fun _ => []) 1 ⟨Nat.le_refl _, fun j h1 h2 => by omega⟩ ⟨rfl, trivial⟩ trivial ?_ (hs := fun _ => ⟨Nat.le_of_ble_eq_true rfl, rfl, fun _ _ => rfl, fun _ _ => rfl, fun i _ => two_ok a b 3 (by omega) i, trivial⟩)
        rintro i ⟨hi, hno⟩
        dsimp only [headF, headM]
        refine bselD (fun h => ?_) (fun h => ?_)
        · have h' : i < (a).length := by have : (i : Int) < (a).length := h; omega
          have ei : 0 + (i : Int).toNat = i := by simp
          have wi : IntKind.i64.wrap ((i : Int) + 1) = ((i + 1 : Nat) : Int) := wrap64_in (by omega) (by omega)
          have w1 : IntKind.i64.wrap ((i : Int) - 1) = ((i - 1 : Nat) : Int) := by rw [wrap64_in (by omega) (by omega)]; omega
          have ei1 : 0 + ((i - 1 : Nat) : Int).toNat = i - 1 := by simp
          repeat refine AJoin.plain ?_
          conv => whnf
          rw [w1]
          refine And.intro ⟨by omega, by omega⟩ ?_
          refine And.intro (by show 0 + ((i - 1 : Nat) : Int).toNat < (a).length; omega) ?_
          conv => whnf
          rw [ei1]
          refine And.intro ⟨by omega, h⟩ ?_
          refine And.intro (by show 0 + i < (a).length; omega) ?_
          conv => whnf
          rw [ei]
          repeat (first | refine And.intro (by kernel_rfl) ?_ | refine And.intro (by decide) ?_)
          refine bselD (fun c => ?_) (fun c => ?_)
          · have no : ascB a = false := asc_no (by omega) h' (decide_eq_true c)
            repeat (first | refine And.intro (by kernel_rfl) ?_ | refine And.intro (by decide) ?_)
            exact ⟨17, by simp only [wrF, va, vb, no, Bool.false_eq_true, if_false, if_true], .id rfl ⟨.inl rfl, .inl rfl, .inl rfl, trivial⟩⟩
          · repeat (first | refine And.intro (by kernel_rfl) ?_ | refine And.intro (by decide) ?_)
            refine ⟨i + 1, ⟨⟨by omega, fun j e1 e2 e3 => ?_⟩, by show (a).length - (i + 1) < (a).length - i; omega⟩, .id ⟨congrArg (int .i64) wi, trivial⟩ rfl trivial rfl⟩
            rcases Nat.lt_or_ge j i with e4 | e4
            · exact hno j e1 e4 e3
            · obtain rfl : j = i := by omega
              exact decide_eq_false c
        · have hasc : ascB a = true := asc_yes fun j e1 e2 => hno j e1 (by have : ¬ (i : Int) < (a).length := h; omega) e2
          exact ⟨0 + 1, ⟨⟨by decide, fun _ => hasc, fun h => by omega⟩, by decide⟩, .id ⟨congrArg (int .i64) wi0, trivial⟩ rfl trivial rfl⟩
      · repeat (first | refine And.intro (by kernel_rfl) ?_ | refine And.intro (by decide) ?_)
        refine ALoop.go (X := Nat) (fun i => 1 ≤ i ∧ ∀ j, 0 < j → j < i → j < (b).length → dwn b j = false) (fun i => (b).length - i) [0, 2, 6, 17, 18, 19] [0, 1, 2] (fun i => [(7, int .i64 i)]) (fun _ => []) 1 ⟨Nat.le_refl _, fun j h1 h2 => by omega⟩ ⟨rfl, trivial⟩ trivial ?_ (hs := fun _ => ⟨Nat.le_of_ble_eq_true rfl, rfl, fun _ _ => rfl, fun _ _ => rfl, fun i _ => two_ok a b 3 (by omega) i, trivial⟩)
        rintro i ⟨hi, hno⟩
        dsimp only [headF, headM]
        refine bselD (fun h => ?_) (fun h => ?_)
        · have h' : i < (b).length := by have : (i : Int) < (b).length := h; omega
          have ei : 0 + (i : Int).toNat = i := by simp
          have wi : IntKind.i64.wrap ((i : Int) + 1) = ((i + 1 : Nat) : Int) := wrap64_in (by omega) (by omega)
          have w1 : IntKind.i64.wrap ((i : Int) - 1) = ((i - 1 : Nat) : Int) := by rw [wrap64_in (by omega) (by omega)]; omega
          have ei1 : 0 + ((i - 1 : Nat) : Int).toNat = i - 1 := by simp
          repeat refine AJoin.plain ?_
          conv => whnf
          rw [w1]
          refine And.intro ⟨by omega, by omega⟩ ?_
          refine And.intro (by show 0 + ((i - 1 : Nat) : Int).toNat < (b).length; omega) ?_
          conv => whnf
          rw [ei1]
          refine And.intro ⟨by omega, h⟩ ?_
          refine And.intro (by show 0 + i < (b).length; omega) ?_
          conv => whnf
          rw [ei]
          repeat (first | refine And.intro (by kernel_rfl) ?_ | refine And.intro (by decide) ?_)
          refine bselD (fun c => ?_) (fun c => ?_)
          · have no : ascB b = false := asc_no (by omega) h' (decide_eq_true c)
            repeat (first | refine And.intro (by kernel_rfl) ?_ | refine And.intro (by decide) ?_)
            exact ⟨17, by simp only [wrF, va, vb, h3 (by omega), no, Bool.false_eq_true, Bool.true_eq_false, if_false, if_true], .id rfl ⟨.inl rfl, .inl rfl, .inl rfl, trivial⟩⟩
          · repeat (first | refine And.intro (by kernel_rfl) ?_ | refine And.intro (by decide) ?_)
            refine ⟨i + 1, ⟨⟨by omega, fun j e1 e2 e3 => ?_⟩, by show (b).length - (i + 1) < (b).length - i; omega⟩, .id ⟨congrArg (int .i64) wi, trivial⟩ rfl trivial rfl⟩
            rcases Nat.lt_or_ge j i with e4 | e4
            · exact hno j e1 e4 e3
            · obtain rfl : j = i := by omega
              exact decide_eq_false c
        · have hasc : ascB b = true := asc_yes fun j e1 e2 => hno j e1 (by have : ¬ (i : Int) < (b).length := h; omega) e2
          exact ⟨1 + 1, ⟨⟨by decide, fun _ => h3 (by omega), fun _ => hasc⟩, by decide⟩, .id ⟨congrArg (int .i64) wi0, trivial⟩ rfl trivial rfl⟩
    · obtain rfl : i = 2 := by have : ¬ (i : Int) < 2 := h; omega
      repeat (first | refine And.intro (by kernel_rfl) ?_ | refine And.intro (by decide) ?_)
      exact ⟨0, by simp only [wrF, va, vb, h3 (by omega), h4 (by omega), Bool.false_eq_true, Bool.true_eq_false, if_false], .id rfl ⟨.inl rfl, .inl rfl, .inl rfl, trivial⟩⟩
end Go.Sx.T1
namespace Go.Sx.T1
open Go.Proofs
def eqP (p q : Pl) : Bool := p.a == q.a && (p.b == q.b && (p.c == q.c && (p.d == q.d && (p.e == q.e && (p.f == q.f && true)))))
def eqR (r s : Rcd) : Bool := r.seq == s.seq && (r.time == s.time && (r.bank == s.bank && (eqS r.st s.st && (eqP r.pl s.pl && true))))
theorem eqP_iff {p q : Pl} : eqP p q = true ↔ p = q := by
  obtain ⟨a, b, c, d, e, f⟩ := p
  obtain ⟨a', b', c', d', e', f'⟩ := q
  simp [eqP]
theorem eqR_iff {r s : Rcd} : eqR r s = true ↔ r = s := by
  obtain ⟨a, b, c, d, e⟩ := r
  obtain ⟨a', b', c', d', e'⟩ := s
  simp [eqR, eqP_iff, eqS_iff]
theorem eqR_no {r s : Rcd} (h : r ≠ s) : eqR r s = false := by
  cases h' : eqR r s with
  | false => rfl
  | true => exact absurd (eqR_iff.1 h') h
theorem ext_getD {α : Type} {a b : List α} (d : α) (hl : a.length = b.length) (h : ∀ i, i < a.length → a.getD i d = b.getD i d) : a = b := by
  apply List.ext_getElem hl
  intro i h1 h2
  have := h i h1
  simpa [List.getD, h1, h2] using this
set_option maxHeartbeats 3200000 in
set_option maxRecDepth 10000 in
theorem same_fc (a b : List Rcd) (ha : a.length ≤ 1000000) : ∃ c : Bool, FC Try.prog 21 [.o (.c (.s 0 0 a.length 16)), .o (.c (.s 1 0 b.length 16))] [recs a false, recs b false] (boo c) [recs a false, recs b false] ∧ (c = true ↔ a = b) := by
  refine FC.rj mix Try.func21 ?_
  refine bselN (fun hne => ?_) (fun heq => ?_)
  · repeat (first | refine And.intro (by kernel_rfl) ?_ | refine And.intro (by decide) ?_)
    exact ⟨false, ⟨fun h => (by cases h), fun h => absurd (by rw [h]) hne⟩, .id rfl ⟨.inl rfl, .inl rfl, trivial⟩⟩
  have hl : a.length = b.length := by omega
  refine ALoop.go (X := Nat) (fun i => i ≤ a.length ∧ ∀ j, j < i → a.getD j zR = b.getD j zR) (fun i => a.length - i) [0, 1] [0, 1] (fun i => [(5, int .i64 i)]) (fun _ => []) 0 ⟨Nat.zero_le _, fun j h => by omega⟩ ⟨rfl, trivial⟩ trivial ?_
  rintro i ⟨hi, hs⟩
  have ei : 0 + (i : Int).toNat = i := by simp
  dsimp only [headF, headM]
  refine bselD (fun h => ?_) (fun h => ?_)
  · have h' : i < a.length := by have : (i : Int) < a.length := h; omega
    have wi : IntKind.i64.wrap ((i : Int) + 1) = ((i + 1 : Nat) : Int) := wrap64_in (by omega) (by omega)
    repeat refine AJoin.plain ?_
    refine And.intro ⟨by omega, h⟩ ?_
    refine And.intro (by show 0 + i < a.length; omega) ?_
    refine And.intro ⟨by omega, by omega⟩ ?_
    refine And.intro (by show 0 + i < b.length; omega) ?_
    repeat (first | refine And.intro (by kernel_rfl) ?_ | refine And.intro (by decide) ?_)
    conv => whnf
    rw [ei]
    refine bselNot (bsel_intro (b := eqR (a.getD i zR) (b.getD i zR)) (fun c => ?_) (fun c => ?_))
    · repeat (first | refine And.intro (by kernel_rfl) ?_ | refine And.intro (by decide) ?_)
      refine ⟨i + 1, ⟨⟨by omega, fun j hj => ?_⟩, by show a.length - (i + 1) < a.length - i; omega⟩, .id ⟨congrArg (int .i64) wi, trivial⟩ rfl trivial rfl⟩
      rcases Nat.lt_or_ge j i with e4 | e4
      · exact hs j e4
      · obtain rfl : j = i := by omega
        exact eqR_iff.1 c
    · repeat (first | refine And.intro (by kernel_rfl) ?_ | refine And.intro (by decide) ?_)
      exact ⟨false, ⟨fun h => (by cases h), fun h => by rw [h, eqR_iff.2 rfl] at c; cases c⟩, .id rfl ⟨.inl rfl, .inl rfl, trivial⟩⟩
  · obtain rfl : i = a.length := by have : ¬ (i : Int) < a.length := h; omega
    repeat (first | refine And.intro (by kernel_rfl) ?_ | refine And.intro (by decide) ?_)
    exact ⟨true, ⟨fun _ => ext_getD zR hl hs, fun _ => rfl⟩, .id rfl ⟨.inl rfl, .inl rfl, trivial⟩⟩
set_option maxHeartbeats 3200000 in
set_option maxRecDepth 10000 in
theorem sameInts_fc (a b : List Int) (ha : a.length ≤ 1000000) : ∃ c : Bool, FC Try.prog 26 [.o (.c (.s 0 0 a.length 1)), .o (.c (.s 1 0 b.length 1))] [i64s a false, i64s b false] (boo c) [i64s a false, i64s b false] ∧ (c = true ↔ a = b) := by
  refine FC.rj mix Try.func26 ?_
  refine bselN (fun hne => ?_) (fun heq => ?_)
  · repeat (first | refine And.intro (by kernel_rfl) ?_ | refine And.intro (by decide) ?_)
    exact ⟨false, ⟨fun h => (by cases h), fun h => absurd (by rw [h]) hne⟩, .id rfl ⟨.inl rfl, .inl rfl, trivial⟩⟩
  have hl : a.length = b.length := by omega
  refine ALoop.go (X := Nat) (fun i => i ≤ a.length ∧ ∀ j, j < i → a.getD j 0 = b.getD j 0) (fun i => a.length - i) [0, 1] [0, 1] (fun i => [(5, int .i64 i)]) (fun _ => []) 0 ⟨Nat.zero_le _, fun j h => by omega⟩ ⟨rfl, trivial⟩ trivial ?_
  rintro i ⟨hi, hs⟩
  have ei : 0 + (i : Int).toNat = i := by simp
  dsimp only [headF, headM]
  refine bselD (fun h => ?_) (fun h => ?_)
  · have h' : i < a.length := by have : (i : Int) < a.length := h; omega
    have wi : IntKind.i64.wrap ((i : Int) + 1) = ((i + 1 : Nat) : Int) := wrap64_in (by omega) (by omega)
    repeat refine AJoin.plain ?_
    refine And.intro ⟨by omega, h⟩ ?_
    refine And.intro (by show 0 + i < a.length; omega) ?_
    refine And.intro ⟨by omega, by omega⟩ ?_
    refine And.intro (by show 0 + i < b.length; omega) ?_
    repeat (first | refine And.intro (by kernel_rfl) ?_ | refine And.intro (by decide) ?_)
    conv => whnf
    rw [ei]
    refine bselN (fun c => ?_) (fun c => ?_)
    · repeat (first | refine And.intro (by kernel_rfl) ?_ | refine And.intro (by decide) ?_)
      exact ⟨false, ⟨fun h => (by cases h), fun h => by rw [h] at c; exact absurd rfl c⟩, .id rfl ⟨.inl rfl, .inl rfl, trivial⟩⟩
    · repeat (first | refine And.intro (by kernel_rfl) ?_ | refine And.intro (by decide) ?_)
      refine ⟨i + 1, ⟨⟨by omega, fun j hj => ?_⟩, by show a.length - (i + 1) < a.length - i; omega⟩, .id ⟨congrArg (int .i64) wi, trivial⟩ rfl trivial rfl⟩
      rcases Nat.lt_or_ge j i with e4 | e4
      · exact hs j e4
      · obtain rfl : j = i := by omega
        exact c
  · obtain rfl : i = a.length := by have : ¬ (i : Int) < a.length := h; omega
    repeat (first | refine And.intro (by kernel_rfl) ?_ | refine And.intro (by decide) ?_)
    exact ⟨true, ⟨fun _ => ext_getD 0 hl hs, fun _ => rfl⟩, .id rfl ⟨.inl rfl, .inl rfl, trivial⟩⟩
end Go.Sx.T1
namespace Go.Sx.T1
open Go.Proofs
/-- the merged list; none: two records with one number -/
def mrg : List Rcd → List Rcd → Option (List Rcd)
  | [], b => some b
  | x :: a, [] => some (x :: a)
  | x :: a, y :: b =>
    if eqR x y = true then (mrg a b).map (x :: ·)
    else if x.seq = y.seq then none
    else if x.seq < y.seq then (mrg a (y :: b)).map (x :: ·)
    else (mrg (x :: a) b).map (y :: ·)
termination_by a b => a.length + b.length
theorem drop_at {l : List Rcd} {i : Nat} (h : i < l.length) : l.drop i = l.getD i zR :: l.drop (i + 1) := by
  rw [List.drop_eq_getElem_cons h]; simp [List.getD, h]
theorem mrg_nil (a : List Rcd) : mrg a [] = some a := by cases a <;> simp [mrg]
section
variable {a b : List Rcd} {i j : Nat} (hi : i < a.length) (hj : j < b.length) {o : List Rcd} (hm : mrg a b = (mrg (a.drop i) (b.drop j)).map (o ++ ·))
include hi hj hm
theorem mrg_both (d : eqR (a.getD i zR) (b.getD j zR) = true) : mrg a b = (mrg (a.drop (i + 1)) (b.drop (j + 1))).map ((o ++ [a.getD i zR]) ++ ·) := by
  rw [hm, drop_at hi, drop_at hj, mrg, if_pos d]
  cases mrg (a.drop (i + 1)) (b.drop (j + 1)) <;> simp
theorem mrg_twice (d : eqR (a.getD i zR) (b.getD j zR) = false) (e : (a.getD i zR).seq = (b.getD j zR).seq) : mrg a b = none := by
  rw [hm, drop_at hi, drop_at hj, mrg, if_neg (by rw [d]; simp), if_pos e]; rfl
theorem mrg_left (d : eqR (a.getD i zR) (b.getD j zR) = false) (e : (a.getD i zR).seq < (b.getD j zR).seq) : mrg a b = (mrg (a.drop (i + 1)) (b.drop j)).map ((o ++ [a.getD i zR]) ++ ·) := by
  rw [hm, drop_at hi, drop_at hj, mrg, if_neg (by rw [d]; simp), if_neg (by omega), if_pos e]
  cases mrg (a.drop (i + 1)) (b.getD j zR :: b.drop (j + 1)) <;> simp
theorem mrg_right (d : eqR (a.getD i zR) (b.getD j zR) = false) (e : (b.getD j zR).seq < (a.getD i zR).seq) : mrg a b = (mrg (a.drop i) (b.drop (j + 1))).map ((o ++ [b.getD j zR]) ++ ·) := by
  rw [hm, drop_at hi, drop_at hj, mrg, if_neg (by rw [d]; simp), if_neg (by omega), if_neg (by omega)]
  cases mrg (a.getD i zR :: a.drop (i + 1)) (b.drop (j + 1)) <;> simp
end
theorem mrg_endA {a b o : List Rcd} {i j : Nat} (hi : a.length ≤ i) (hm : mrg a b = (mrg (a.drop i) (b.drop j)).map (o ++ ·)) : mrg a b = some (o ++ b.drop j) := by
  rw [hm, List.drop_eq_nil_of_le hi, mrg]; rfl
theorem mrg_endB {a b o : List Rcd} {i j : Nat} (hj : b.length ≤ j) (hm : mrg a b = (mrg (a.drop i) (b.drop j)).map (o ++ ·)) : mrg a b = some (o ++ a.drop i) := by
  rw [hm, List.drop_eq_nil_of_le hj, mrg_nil]; rfl
noncomputable def joinF (a b : List Rcd) : List Rcd × Int :=
  if wrF a b = 0 then (match mrg a b with
    | some l => (l, 0)
    | none => ([], 8))
  else ([], wrF a b)
def joinS (p : List Rcd × Int) : SV := .t [.c (.s 2 0 p.1.length 16), .c (.v (.int .i64 p.2))]
def joinM (a b : List Rcd) (p : List Rcd × Int) : Mem := [recs a false, recs b false, recs p.1 true]
structure JW where
  i : Nat
  j : Nat
  o : List Rcd
/-- what has been merged before the places i and j -/
structure JI (a b : List Rcd) (x : JW) : Prop where
  i : x.i ≤ a.length
  j : x.j ≤ b.length
  o : x.o.length ≤ x.i + x.j
  m : mrg a b = (mrg (a.drop x.i) (b.drop x.j)).map (x.o ++ ·)
theorem row3 (o a b : List Rcd) {i j : Nat} (hi : i ≤ a.length) (hj : j ≤ b.length) (q : Nat) (hq : q < (o ++ a.drop i ++ b.drop j).length) :
    (if q < o.length + (a.length - i) then (if 0 + q < o.length then rcC (o.getD (0 + (0 + q)) zR) else rcC (a.getD (i + (0 + q - o.length)) zR)) else rcC (b.getD (j + (q - (o.length + (a.length - i)))) zR)) = rcC ((o ++ a.drop i ++ b.drop j).getD q zR) := by
  simp only [Nat.zero_add]
  simp only [List.length_append, List.length_drop] at hq
  by_cases h1 : q < o.length + (a.length - i)
  · rw [if_pos h1]
    by_cases h2 : q < o.length
    · rw [if_pos h2]; simp [List.getD, List.getElem?_append_left h2, List.append_assoc]
    · rw [if_neg h2]
      simp [List.getD, List.append_assoc, List.getElem?_append_right (Nat.not_lt.1 h2), List.getElem?_append_left (show q - o.length < (a.drop i).length by simp; omega)]
  · rw [if_neg h1]
    simp only [List.getD, List.getElem?_append_right (show (o ++ a.drop i).length ≤ q by simp; omega), List.getElem?_drop, List.length_append, List.length_drop]
set_option maxHeartbeats 3200000 in
set_option maxRecDepth 10000 in
theorem join_fc (a b : List Rcd) (ha : a.length ≤ 100000) (hb : b.length ≤ 100000) : ∃ p : List Rcd × Int, FC Try.prog 20 [.o (.c (.s 0 0 a.length 16)), .o (.c (.s 1 0 b.length 16))] [recs a false, recs b false] (joinS p) (joinM a b p) ∧ p = joinF a b := by
  refine FC.rj mix Try.func20 ?_
  repeat (first | refine And.intro (by kernel_rfl) ?_ | refine And.intro (by decide) ?_)
  refine FC.x (wrong_fc a b ha hb) [0, 1, 2] (fun e he => ?_) (hrd := ?_) (hbm := ⟨fun _ _ => rfl, fun _ _ => rfl, fun i _ => two_ok a b 3 (by omega) i, trivial⟩)
  rotate_left
  · refine ⟨.inl rfl, .inl rfl, .inr (.inr (leB.rows (Nat.le_refl _) (fun i hi => ?_) (fun h => by cases h))), trivial⟩
    have hi' : i < 2 := hi
    obtain rfl | rfl : i = 0 ∨ i = 1 := by omega
    · rfl
    · rfl
  refine bselN (fun hne => ?_) (fun h0 => ?_)
  · repeat (first | refine And.intro (by kernel_rfl) ?_ | refine And.intro (by decide) ?_)
    exact ⟨([], e), by subst he; simp only [joinF, if_neg hne], isEnd.go [(2, .new 16)] rfl ⟨.inl rfl, .inl rfl, ⟨.inr ⟨rfl, Nat.le_of_ble_eq_true rfl, fun _ h => absurd h (Nat.not_lt_zero _)⟩, rfl⟩, trivial⟩⟩
  subst h0
  refine ALoop.goN (X := JW) (JI a b) (fun x => (a.length - x.i) + (b.length - x.j)) [4, 5] [0, 1] (fun x => [(0, .o (.c (.s 0 x.i (a.length - x.i) 16))), (1, .o (.c (.s 1 x.j (b.length - x.j) 16))), (7, .o (.c (.s 3 0 x.o.length 16)))])
    (fun x => [(3, ⟨.rows 16 x.o.length (fun i => rcC (x.o.getD i zR)), true⟩)]) ⟨0, 0, []⟩ 4
    ⟨Nat.zero_le _, Nat.zero_le _, Nat.zero_le _, by simp⟩ (isAt.go [(3, .new 16)] ⟨rfl, rfl, rfl, trivial⟩ ⟨⟨.inr ⟨rfl, Nat.le_of_ble_eq_true rfl, fun _ h => absurd h (Nat.not_lt_zero _)⟩, rfl⟩, trivial⟩) ?_
  rintro ⟨i, j, o⟩ ⟨hi, hj, ho, hm⟩
  simp only at hi hj ho hm
  dsimp only [headF, headM]
  refine bselD (fun c1 => ?_) (fun c1 => ?_)
  · refine bselD (fun c2 => ?_) (fun c2 => ?_)
    · have hi' : i < a.length := by omega
      have hj' : j < b.length := by omega
      repeat refine AJoin.plain ?_
      refine And.intro ⟨Int.le_refl 0, c1⟩ ?_
      refine And.intro (by show i + 0 < a.length; omega) ?_
      refine And.intro ⟨Int.le_refl 0, c2⟩ ?_
      refine And.intro (by show j + 0 < b.length; omega) ?_
      repeat (first | refine And.intro (by kernel_rfl) ?_ | refine And.intro (by decide) ?_)
      refine bsel_intro (b := eqR (a.getD i zR) (b.getD j zR)) (fun d1 => ?_) (fun d1 => ?_)
      · repeat refine AJoin.plain ?_
        repeat (first | refine And.intro (by kernel_rfl) ?_ | refine And.intro (by decide) ?_)
        refine And.intro ⟨by show 0 + o.length ≤ o.length; omega, fun _ _ => rfl⟩ ?_
        refine And.intro ⟨Nat.le_of_ble_eq_true rfl, fun q hq => by have hq' : q < 1 := hq; obtain rfl : q = 0 := (by omega); rfl⟩ ?_
        refine And.intro (by show o.length + 1 ≤ 4294967296; omega) ?_
        repeat (first | refine And.intro (by kernel_rfl) ?_ | refine And.intro (by decide) ?_)
        refine And.intro ⟨by omega, by omega⟩ ?_
        refine And.intro ⟨by omega, by omega⟩ ?_
        repeat (first | refine And.intro (by kernel_rfl) ?_ | refine And.intro (by decide) ?_)
        refine ⟨⟨i + 1, j + 1, o ++ [a.getD i zR]⟩, ⟨⟨hi', hj', by simp; omega, mrg_both hi' hj' hm d1⟩, by show (a.length - (i + 1)) + (b.length - (j + 1)) < (a.length - i) + (b.length - j); omega⟩,
          isAt.go [(3, .to 7)] ⟨rfl, rfl, congrArg (fun n => SV.o (.c (.s 7 0 n 16))) (show o.length + 1 = (o ++ [a.getD i zR]).length by simp), trivial⟩ ⟨leB.rows (by simp) (fun q hq => ?_) id, trivial⟩⟩
        have hq' : q < (o ++ [a.getD i zR]).length := hq
        exact rowR (p := a.getD i zR) o q (by simpa using hq')
      · refine bselE (fun d2 => ?_) (fun d2 => ?_)
        · repeat (first | refine And.intro (by kernel_rfl) ?_ | refine And.intro (by decide) ?_)
          exact ⟨([], 8), by simp only [joinF, ← he, if_true, mrg_twice hi' hj' hm d1 d2], isEnd.go [(2, .new 16)] rfl ⟨.inl rfl, .inl rfl, ⟨.inr ⟨rfl, Nat.le_of_ble_eq_true rfl, fun _ h => absurd h (Nat.not_lt_zero _)⟩, rfl⟩, trivial⟩⟩
        have d2' : ¬ (a.getD i zR).seq = (b.getD j zR).seq := d2
        refine bselD (fun d3 => ?_) (fun d3 => ?_)
        · repeat refine AJoin.plain ?_
          repeat (first | refine And.intro (by kernel_rfl) ?_ | refine And.intro (by decide) ?_)
          refine And.intro ⟨by show 0 + o.length ≤ o.length; omega, fun _ _ => rfl⟩ ?_
          refine And.intro ⟨Nat.le_of_ble_eq_true rfl, fun q hq => by have hq' : q < 1 := hq; obtain rfl : q = 0 := (by omega); rfl⟩ ?_
          refine And.intro (by show o.length + 1 ≤ 4294967296; omega) ?_
          repeat (first | refine And.intro (by kernel_rfl) ?_ | refine And.intro (by decide) ?_)
          refine And.intro ⟨by omega, by omega⟩ ?_
          repeat (first | refine And.intro (by kernel_rfl) ?_ | refine And.intro (by decide) ?_)
          refine ⟨⟨i + 1, j, o ++ [a.getD i zR]⟩, ⟨⟨hi', hj, by simp; omega, mrg_left hi' hj' hm d1 d3⟩, by show (a.length - (i + 1)) + (b.length - j) < (a.length - i) + (b.length - j); omega⟩,
            isAt.go [(3, .to 7)] ⟨rfl, rfl, congrArg (fun n => SV.o (.c (.s 7 0 n 16))) (show o.length + 1 = (o ++ [a.getD i zR]).length by simp), trivial⟩ ⟨leB.rows (by simp) (fun q hq => ?_) id, trivial⟩⟩
          have hq' : q < (o ++ [a.getD i zR]).length := hq
          exact rowR (p := a.getD i zR) o q (by simpa using hq')
        · repeat refine AJoin.plain ?_
          repeat (first | refine And.intro (by kernel_rfl) ?_ | refine And.intro (by decide) ?_)
          refine And.intro ⟨by show 0 + o.length ≤ o.length; omega, fun _ _ => rfl⟩ ?_
          refine And.intro ⟨Nat.le_of_ble_eq_true rfl, fun q hq => by have hq' : q < 1 := hq; obtain rfl : q = 0 := (by omega); rfl⟩ ?_
          refine And.intro (by show o.length + 1 ≤ 4294967296; omega) ?_
          repeat (first | refine And.intro (by kernel_rfl) ?_ | refine And.intro (by decide) ?_)
          refine And.intro ⟨by omega, by omega⟩ ?_
          repeat (first | refine And.intro (by kernel_rfl) ?_ | refine And.intro (by decide) ?_)
          refine ⟨⟨i, j + 1, o ++ [b.getD j zR]⟩, ⟨⟨hi, hj', by simp; omega, mrg_right hi' hj' hm d1 (by have d3' : ¬ (a.getD i zR).seq < (b.getD j zR).seq := d3; omega)⟩, by show (a.length - i) + (b.length - (j + 1)) < (a.length - i) + (b.length - j); omega⟩,
            isAt.go [(3, .to 7)] ⟨rfl, rfl, congrArg (fun n => SV.o (.c (.s 7 0 n 16))) (show o.length + 1 = (o ++ [b.getD j zR]).length by simp), trivial⟩ ⟨leB.rows (by simp) (fun q hq => ?_) id, trivial⟩⟩
          have hq' : q < (o ++ [b.getD j zR]).length := hq
          exact rowR (p := b.getD j zR) o q (by simpa using hq')
    · have hp : mrg a b = some (o ++ a.drop i ++ b.drop j) := by rw [mrg_endB (show b.length ≤ j by omega) hm, List.drop_eq_nil_of_le (show b.length ≤ j by omega), List.append_nil]
      repeat (first | refine And.intro (by kernel_rfl) ?_ | refine And.intro (by decide) ?_)
      refine And.intro ⟨by show 0 + o.length ≤ o.length; omega, fun _ _ => rfl⟩ ?_
      refine And.intro ⟨by show i + (a.length - i) ≤ a.length; omega, fun _ _ => rfl⟩ ?_
      refine And.intro (by show o.length + (a.length - i) ≤ 4294967296; omega) ?_
      repeat (first | refine And.intro (by kernel_rfl) ?_ | refine And.intro (by decide) ?_)
      refine And.intro ⟨by show 0 + (o.length + (a.length - i)) ≤ o.length + (a.length - i); omega, fun q _ => by show List.all (if _ then rcC _ else rcC _) C.ok = true; split <;> rfl⟩ ?_
      refine And.intro ⟨by show j + (b.length - j) ≤ b.length; omega, fun _ _ => rfl⟩ ?_
      refine And.intro (by show o.length + (a.length - i) + (b.length - j) ≤ 4294967296; omega) ?_
      repeat (first | refine And.intro (by kernel_rfl) ?_ | refine And.intro (by decide) ?_)
      refine ⟨(o ++ a.drop i ++ b.drop j, 0), by simp only [joinF, ← he, if_true, hp], isEnd.go [(2, .to 5)] (congrArg (fun n : Nat => SV.t [.c (.s 5 0 n 16), .c (.v (.int .i64 0))]) (show o.length + (a.length - i) + (b.length - j) = (o ++ a.drop i ++ b.drop j).length by simp; omega)) ⟨.inl rfl, .inl rfl, leB.rows (by simp; omega) (fun q hq => ?_) id, trivial⟩⟩
      exact row3 o a b hi hj q hq
  · have hp : mrg a b = some (o ++ a.drop i ++ b.drop j) := by rw [mrg_endA (show a.length ≤ i by omega) hm, List.drop_eq_nil_of_le (show a.length ≤ i by omega), List.append_nil]
    repeat (first | refine And.intro (by kernel_rfl) ?_ | refine And.intro (by decide) ?_)
    refine And.intro ⟨by show 0 + o.length ≤ o.length; omega, fun _ _ => rfl⟩ ?_
    refine And.intro ⟨by show i + (a.length - i) ≤ a.length; omega, fun _ _ => rfl⟩ ?_
    refine And.intro (by show o.length + (a.length - i) ≤ 4294967296; omega) ?_
    repeat (first | refine And.intro (by kernel_rfl) ?_ | refine And.intro (by decide) ?_)
    refine And.intro ⟨by show 0 + (o.length + (a.length - i)) ≤ o.length + (a.length - i); omega, fun q _ => by show List.all (if _ then rcC _ else rcC _) C.ok = true; split <;> rfl⟩ ?_
    refine And.intro ⟨by show j + (b.length - j) ≤ b.length; omega, fun _ _ => rfl⟩ ?_
    refine And.intro (by show o.length + (a.length - i) + (b.length - j) ≤ 4294967296; omega) ?_
    repeat (first | refine And.intro (by kernel_rfl) ?_ | refine And.intro (by decide) ?_)
    refine ⟨(o ++ a.drop i ++ b.drop j, 0), by simp only [joinF, ← he, if_true, hp], isEnd.go [(2, .to 5)] (congrArg (fun n : Nat => SV.t [.c (.s 5 0 n 16), .c (.v (.int .i64 0))]) (show o.length + (a.length - i) + (b.length - j) = (o ++ a.drop i ++ b.drop j).length by simp; omega)) ⟨.inl rfl, .inl rfl, leB.rows (by simp; omega) (fun q hq => ?_) id, trivial⟩⟩
    exact row3 o a b hi hj q hq
end Go.Sx.T1
namespace Go.Sx.T1
open Go.Proofs
/-- the first place whose record is not valid, in both lists one after the other -/
def catG (a b : List Rcd) (i : Nat) : Rcd := if i < a.length then a.getD i zR else b.getD (i - a.length) zR
theorem cat_bad {a b : List Rcd} {i : Nat} (hi : i < a.length + b.length) (h : okB (catG a b i) = false) : a.any badR = true ∨ (a.any badR = false ∧ b.any badR = true) := by
  unfold catG at h
  cases ha : a.any badR with
  | true => exact .inl rfl
  | false =>
    refine .inr ⟨rfl, ?_⟩
    by_cases c : i < a.length
    · rw [if_pos c] at h
      have := List.any_eq_false.1 ha (a.getD i zR) (by simp [List.getD, c])
      exact absurd (by simp only [badR, h, Bool.not_false]) this
    · rw [if_neg c] at h
      exact List.any_eq_true.2 ⟨b.getD (i - a.length) zR, by simp [List.getD, show i - a.length < b.length by omega], by simp only [badR, h, Bool.not_false]⟩
theorem cat_good {a b : List Rcd} (h : ∀ i, i < a.length + b.length → okB (catG a b i) = true) : a.any badR = false ∧ b.any badR = false := by
  refine ⟨List.any_eq_false.2 fun r hr => ?_, List.any_eq_false.2 fun r hr => ?_⟩
  · obtain ⟨i, hi, rfl⟩ := List.getElem_of_mem hr
    have := h i (by omega)
    simp only [catG, if_pos hi] at this
    simp [List.getD, hi] at this
    simp [badR, this]
  · obtain ⟨i, hi, rfl⟩ := List.getElem_of_mem hr
    have := h (a.length + i) (by omega)
    simp only [catG, if_neg (show ¬ a.length + i < a.length by omega), Nat.add_sub_cancel_left] at this
    simp [List.getD, hi] at this
    simp [badR, this]
end Go.Sx.T1
namespace Go.Sx.T1
open Go.Proofs
theorem join_bad {a b : List Rcd} {i : Nat} (hi : i < a.length + b.length) (h : okB (catG a b i) = false) : ([], 1) = joinF a b := by
  have e : wrF a b = 1 := by
    rcases cat_bad hi h with h1 | ⟨h1, h2⟩
    · simp only [wrF, h1, if_true]
    · simp only [wrF, h1, h2, if_true, Bool.false_eq_true, if_false]
  simp only [joinF, e]; rfl
section
variable {a b : List Rcd} {i j : Nat} {o : List Rcd} (hm : mrg a b = (mrg (a.drop i) (b.drop j)).map (o ++ ·))
include hm
theorem mrg_leftE (hi : i < a.length) (hj : b.length ≤ j) : mrg a b = (mrg (a.drop (i + 1)) (b.drop j)).map ((o ++ [a.getD i zR]) ++ ·) := by
  rw [hm, drop_at hi, List.drop_eq_nil_of_le hj, mrg_nil, mrg_nil]; simp
theorem mrg_rightE (hi : a.length ≤ i) (hj : j < b.length) : mrg a b = (mrg (a.drop i) (b.drop (j + 1))).map ((o ++ [b.getD j zR]) ++ ·) := by
  rw [hm, drop_at hj, List.drop_eq_nil_of_le hi, mrg, mrg]; simp
end
set_option maxHeartbeats 3200000 in
set_option maxRecDepth 10000 in
theorem refJoin_fc (a b : List Rcd) (ha : a.length ≤ 100000) (hb : b.length ≤ 100000) : ∃ p : List Rcd × Int, FC Try.prog 24 [.o (.c (.s 0 0 a.length 16)), .o (.c (.s 1 0 b.length 16))] [recs a false, recs b false] (joinS p) (joinM a b p) ∧ p = joinF a b := by
  refine FC.rj mix Try.func24 ?_
  refine ALoop.go (X := Nat) (fun i => i ≤ a.length + b.length ∧ ∀ j, j < i → okB (catG a b j) = true) (fun i => a.length + b.length - i) [0, 1, 4, 5] [0, 1] (fun i => [(6, int .i64 i)]) (fun _ => []) 0 ⟨Nat.zero_le _, fun j h => by omega⟩ ⟨rfl, trivial⟩ trivial ?_
  rintro i ⟨hi, hs⟩
  have ei : 0 + (i : Int).toNat = i := by simp
  have wab : IntKind.i64.wrap ((a.length : Int) + b.length) = ((a.length + b.length : Nat) : Int) := by rw [wrap64_in (by omega) (by omega)]; omega
  dsimp only [headF, headM]
  conv => whnf
  rw [wab]
  refine bselD (fun h => ?_) (fun h => ?_)
  · have h' : i < a.length + b.length := by omega
    have wi : IntKind.i64.wrap ((i : Int) + 1) = ((i + 1 : Nat) : Int) := wrap64_in (by omega) (by omega)
    repeat refine AJoin.plain ?_
    refine bselD (fun c => ?_) (fun c => ?_)
    · have h1 : i < a.length := by omega
      have eg : catG a b i = a.getD i zR := if_pos h1
      refine And.intro ⟨by omega, c⟩ ?_
      refine And.intro (by show 0 + i < a.length; omega) ?_
      refine FC.u (refValid_is (a.getD (0 + (i : Int).toNat) zR)) [] ?_
      refine bselNot (bsel_intro (fun v => ?_) (fun v => ?_)) <;> rw [ei] at v
      · refine bselD (fun c2 => absurd c2 (by omega)) (fun _ => ?_)
        repeat (first | refine And.intro (by kernel_rfl) ?_ | refine And.intro (by decide) ?_)
        refine ⟨i + 1, ⟨⟨by omega, fun q hq => ?_⟩, by show a.length + b.length - (i + 1) < a.length + b.length - i; omega⟩, .id ⟨congrArg (int .i64) wi, trivial⟩ rfl trivial rfl⟩
        rcases Nat.lt_or_ge q i with e4 | e4
        · exact hs q e4
        · obtain rfl : q = i := by omega
          rw [eg]; exact v
      · repeat (first | refine And.intro (by kernel_rfl) ?_ | refine And.intro (by decide) ?_)
        exact ⟨([], 1), join_bad h' (eg.symm ▸ v), isEnd.go [(2, .new 16)] rfl ⟨.inl rfl, .inl rfl, ⟨.inr ⟨rfl, Nat.le_of_ble_eq_true rfl, fun _ h => absurd h (Nat.not_lt_zero _)⟩, rfl⟩, trivial⟩⟩
    · have h1 : ¬ i < a.length := by omega
      have eg : catG a b i = b.getD (i - a.length) zR := if_neg h1
      have w2 : IntKind.i64.wrap ((i : Int) - a.length) = ((i - a.length : Nat) : Int) := by rw [wrap64_in (by omega) (by omega)]; omega
      refine bselD (fun _ => ?_) (fun c2 => absurd c2 (by omega))
      conv => whnf
      rw [w2]
      refine And.intro ⟨by omega, by omega⟩ ?_
      refine And.intro (by show 0 + (i - a.length) < b.length; omega) ?_
      have ej : 0 + ((i - a.length : Nat) : Int).toNat = i - a.length := by simp
      refine FC.u (refValid_is (b.getD (0 + ((i - a.length : Nat) : Int).toNat) zR)) [] ?_
      refine bselNot (bsel_intro (fun v => ?_) (fun v => ?_)) <;> rw [ej] at v
      · repeat (first | refine And.intro (by kernel_rfl) ?_ | refine And.intro (by decide) ?_)
        refine ⟨i + 1, ⟨⟨by omega, fun q hq => ?_⟩, by show a.length + b.length - (i + 1) < a.length + b.length - i; omega⟩, .id ⟨congrArg (int .i64) wi, trivial⟩ rfl trivial rfl⟩
        rcases Nat.lt_or_ge q i with e4 | e4
        · exact hs q e4
        · obtain rfl : q = i := by omega
          rw [eg]; exact v
      · repeat (first | refine And.intro (by kernel_rfl) ?_ | refine And.intro (by decide) ?_)
        exact ⟨([], 1), join_bad h' (eg.symm ▸ v), isEnd.go [(2, .new 16)] rfl ⟨.inl rfl, .inl rfl, ⟨.inr ⟨rfl, Nat.le_of_ble_eq_true rfl, fun _ h => absurd h (Nat.not_lt_zero _)⟩, rfl⟩, trivial⟩⟩
  · obtain rfl : i = a.length + b.length := by omega
    obtain ⟨ga, gb⟩ := cat_good hs
    refine FC.u (ascends_fc a ha) [0] ?_
    refine bselNot (bsel_intro (fun u1 => ?_) (fun u1 => ?_))
    · refine FC.u (ascends_fc b hb) [1] ?_
      refine bselNot (bsel_intro (fun u2 => ?_) (fun u2 => ?_))
      · have he : wrF a b = 0 := by simp only [wrF, ga, gb, u1, u2, Bool.false_eq_true, Bool.true_eq_false, if_false]
        refine ALoop.goN (X := JW) (JI a b) (fun x => (a.length - x.i) + (b.length - x.j)) [0, 1, 4, 5] [0, 1] (fun x => [(7, .o (.c (.s 2 0 x.o.length 16))), (8, int .i64 x.i), (9, int .i64 x.j)])
          (fun x => [(2, ⟨.rows 16 x.o.length (fun i => rcC (x.o.getD i zR)), true⟩)]) ⟨0, 0, []⟩ 3
          ⟨Nat.zero_le _, Nat.zero_le _, Nat.zero_le _, by simp⟩ (isAt.go [(2, .new 16)] ⟨rfl, rfl, rfl, trivial⟩ ⟨⟨.inr ⟨rfl, Nat.le_of_ble_eq_true rfl, fun _ h => absurd h (Nat.not_lt_zero _)⟩, rfl⟩, trivial⟩) ?_
        rintro ⟨i, j, o⟩ ⟨hi, hj, ho, hm⟩
        simp only at hi hj ho hm
        dsimp only [headF, headM]
        have eI : 0 + (i : Int).toNat = i := by simp
        have eJ : 0 + (j : Int).toNat = j := by simp
        have wi' : IntKind.i64.wrap ((i : Int) + 1) = ((i + 1 : Nat) : Int) := wrap64_in (by omega) (by omega)
        have wj' : IntKind.i64.wrap ((j : Int) + 1) = ((j + 1 : Nat) : Int) := wrap64_in (by omega) (by omega)
        refine bselD (fun c1 => ?_) (fun c1 => ?_)
        · have hi' : i < a.length := by omega
          repeat refine AJoin.plain ?_
          refine bselE (fun c2 => ?_) (fun c2 => ?_)
          · repeat refine AJoin.plain ?_
            repeat (first | refine And.intro (by kernel_rfl) ?_ | refine And.intro (by decide) ?_)
            refine And.intro ⟨by omega, by omega⟩ ?_
            refine And.intro (by show 0 + i < a.length; omega) ?_
            refine And.intro ⟨by show 0 + o.length ≤ o.length; omega, fun _ _ => rfl⟩ ?_
            refine And.intro ⟨Nat.le_of_ble_eq_true rfl, fun q hq => by have hq' : q < 1 := hq; obtain rfl : q = 0 := (by omega); rfl⟩ ?_
            refine And.intro (by show o.length + 1 ≤ 4294967296; omega) ?_
            repeat (first | refine And.intro (by kernel_rfl) ?_ | refine And.intro (by decide) ?_)
            refine ⟨⟨i + 1, j, o ++ [a.getD i zR]⟩, ⟨⟨hi', hj, by simp; omega, mrg_leftE (i := i) (j := j) hm hi' (by omega)⟩, by show (a.length - (i + 1)) + (b.length - j) < (a.length - i) + (b.length - j); omega⟩,
              isAt.go [(2, .to 4)] ⟨congrArg (fun n => SV.o (.c (.s 4 0 n 16))) (show o.length + 1 = (o ++ [a.getD i zR]).length by simp), congrArg (int .i64) wi', rfl, trivial⟩ ⟨leB.rows (by simp) (fun q hq => ?_) id, trivial⟩⟩
            have hq' : q < (o ++ [a.getD i zR]).length := hq
            exact (rowR (p := a.getD (0 + (i : Int).toNat) zR) o q (by simpa using hq')).trans (by rw [eI]; rfl)
          · have hj' : j < b.length := by omega
            refine bselD (fun _ => ?_) (fun c => absurd c1 c)
            refine And.intro ⟨by omega, c1⟩ ?_
            refine And.intro (by show 0 + i < a.length; omega) ?_
            refine And.intro ⟨by omega, by omega⟩ ?_
            refine And.intro (by show 0 + j < b.length; omega) ?_
            conv => whnf
            rw [eI, eJ]
            repeat (first | refine And.intro (by kernel_rfl) ?_ | refine And.intro (by decide) ?_)
            refine bselD (fun c3 => ?_) (fun c3 => ?_)
            · have d1 := eqR_no (r := a.getD i zR) (s := b.getD j zR) (fun e => by have c3' : (a.getD i zR).seq < (b.getD j zR).seq := c3; rw [e] at c3'; omega)
              repeat refine AJoin.plain ?_
              repeat (first | refine And.intro (by kernel_rfl) ?_ | refine And.intro (by decide) ?_)
              refine And.intro ⟨by omega, by omega⟩ ?_
              refine And.intro (by show 0 + i < a.length; omega) ?_
              refine And.intro ⟨by show 0 + o.length ≤ o.length; omega, fun _ _ => rfl⟩ ?_
              refine And.intro ⟨Nat.le_of_ble_eq_true rfl, fun q hq => by have hq' : q < 1 := hq; obtain rfl : q = 0 := (by omega); rfl⟩ ?_
              refine And.intro (by show o.length + 1 ≤ 4294967296; omega) ?_
              repeat (first | refine And.intro (by kernel_rfl) ?_ | refine And.intro (by decide) ?_)
              refine ⟨⟨i + 1, j, o ++ [a.getD i zR]⟩, ⟨⟨hi', hj, by simp; omega, mrg_left hi' hj' hm d1 c3⟩, by show (a.length - (i + 1)) + (b.length - j) < (a.length - i) + (b.length - j); omega⟩,
                isAt.go [(2, .to 4)] ⟨congrArg (fun n => SV.o (.c (.s 4 0 n 16))) (show o.length + 1 = (o ++ [a.getD i zR]).length by simp), congrArg (int .i64) wi', rfl, trivial⟩ ⟨leB.rows (by simp) (fun q hq => ?_) id, trivial⟩⟩
              have hq' : q < (o ++ [a.getD i zR]).length := hq
              exact (rowR (p := a.getD (0 + (i : Int).toNat) zR) o q (by simpa using hq')).trans (by rw [eI]; rfl)
            · repeat refine AJoin.plain ?_
              refine bselE (fun c => absurd c (by omega)) (fun _ => ?_)
              refine And.intro ⟨by omega, by omega⟩ ?_
              refine And.intro (by show 0 + j < b.length; omega) ?_
              refine And.intro ⟨by omega, c1⟩ ?_
              refine And.intro (by show 0 + i < a.length; omega) ?_
              conv => whnf
              rw [eI, eJ]
              repeat (first | refine And.intro (by kernel_rfl) ?_ | refine And.intro (by decide) ?_)
              have c3' : ¬ (a.getD i zR).seq < (b.getD j zR).seq := c3
              refine bselD (fun c4 => ?_) (fun c4 => ?_)
              · have d1 := eqR_no (r := a.getD i zR) (s := b.getD j zR) (fun e => by have c4' : (b.getD j zR).seq < (a.getD i zR).seq := c4; rw [e] at c4'; omega)
                repeat refine AJoin.plain ?_
                repeat (first | refine And.intro (by kernel_rfl) ?_ | refine And.intro (by decide) ?_)
                refine And.intro ⟨by omega, by omega⟩ ?_
                refine And.intro (by show 0 + j < b.length; omega) ?_
                refine And.intro ⟨by show 0 + o.length ≤ o.length; omega, fun _ _ => rfl⟩ ?_
                refine And.intro ⟨Nat.le_of_ble_eq_true rfl, fun q hq => by have hq' : q < 1 := hq; obtain rfl : q = 0 := (by omega); rfl⟩ ?_
                refine And.intro (by show o.length + 1 ≤ 4294967296; omega) ?_
                repeat (first | refine And.intro (by kernel_rfl) ?_ | refine And.intro (by decide) ?_)
                refine ⟨⟨i, j + 1, o ++ [b.getD j zR]⟩, ⟨⟨hi, hj', by simp; omega, mrg_right hi' hj' hm d1 c4⟩, by show (a.length - i) + (b.length - (j + 1)) < (a.length - i) + (b.length - j); omega⟩,
                  isAt.go [(2, .to 4)] ⟨congrArg (fun n => SV.o (.c (.s 4 0 n 16))) (show o.length + 1 = (o ++ [b.getD j zR]).length by simp), rfl, congrArg (int .i64) wj', trivial⟩ ⟨leB.rows (by simp) (fun q hq => ?_) id, trivial⟩⟩
                have hq' : q < (o ++ [b.getD j zR]).length := hq
                exact (rowR (p := b.getD (0 + (j : Int).toNat) zR) o q (by simpa using hq')).trans (by rw [eJ]; rfl)
              · have c4' : ¬ (b.getD j zR).seq < (a.getD i zR).seq := c4
                repeat refine AJoin.plain ?_
                refine And.intro ⟨by omega, c1⟩ ?_
                refine And.intro (by show 0 + i < a.length; omega) ?_
                refine And.intro ⟨by omega, by omega⟩ ?_
                refine And.intro (by show 0 + j < b.length; omega) ?_
                conv => whnf
                rw [eI, eJ]
                repeat (first | refine And.intro (by kernel_rfl) ?_ | refine And.intro (by decide) ?_)
                refine bselNot (bsel_intro (b := eqR (a.getD i zR) (b.getD j zR)) (fun d1 => ?_) (fun d1 => ?_))
                · repeat refine AJoin.plain ?_
                  repeat (first | refine And.intro (by kernel_rfl) ?_ | refine And.intro (by decide) ?_)
                  refine And.intro ⟨by omega, by omega⟩ ?_
                  refine And.intro (by show 0 + i < a.length; omega) ?_
                  refine And.intro ⟨by show 0 + o.length ≤ o.length; omega, fun _ _ => rfl⟩ ?_
                  refine And.intro ⟨Nat.le_of_ble_eq_true rfl, fun q hq => by have hq' : q < 1 := hq; obtain rfl : q = 0 := (by omega); rfl⟩ ?_
                  refine And.intro (by show o.length + 1 ≤ 4294967296; omega) ?_
                  repeat (first | refine And.intro (by kernel_rfl) ?_ | refine And.intro (by decide) ?_)
                  refine ⟨⟨i + 1, j + 1, o ++ [a.getD i zR]⟩, ⟨⟨hi', hj', by simp; omega, mrg_both hi' hj' hm d1⟩, by show (a.length - (i + 1)) + (b.length - (j + 1)) < (a.length - i) + (b.length - j); omega⟩,
                    isAt.go [(2, .to 4)] ⟨congrArg (fun n => SV.o (.c (.s 4 0 n 16))) (show o.length + 1 = (o ++ [a.getD i zR]).length by simp), congrArg (int .i64) wi', congrArg (int .i64) wj', trivial⟩ ⟨leB.rows (by simp) (fun q hq => ?_) id, trivial⟩⟩
                  have hq' : q < (o ++ [a.getD i zR]).length := hq
                  exact (rowR (p := a.getD (0 + (i : Int).toNat) zR) o q (by simpa using hq')).trans (by rw [eI]; rfl)
                · repeat (first | refine And.intro (by kernel_rfl) ?_ | refine And.intro (by decide) ?_)
                  exact ⟨([], 8), by simp only [joinF, he, if_true, mrg_twice hi' hj' hm d1 (by omega)], isEnd.go [(2, .new 16)] rfl ⟨.inl rfl, .inl rfl, ⟨.inr ⟨rfl, Nat.le_of_ble_eq_true rfl, fun _ h => absurd h (Nat.not_lt_zero _)⟩, rfl⟩, trivial⟩⟩
        · refine bselD (fun c2 => ?_) (fun c2 => ?_)
          · have hj' : j < b.length := by omega
            repeat refine AJoin.plain ?_
            refine bselE (fun c => absurd c (by omega)) (fun _ => ?_)
            refine bselD (fun c => absurd c c1) (fun _ => ?_)
            repeat refine AJoin.plain ?_
            repeat (first | refine And.intro (by kernel_rfl) ?_ | refine And.intro (by decide) ?_)
            refine bselE (fun _ => ?_) (fun c => absurd (show (i : Int) = a.length by omega) c)
            repeat refine AJoin.plain ?_
            repeat (first | refine And.intro (by kernel_rfl) ?_ | refine And.intro (by decide) ?_)
            refine And.intro ⟨by omega, by omega⟩ ?_
            refine And.intro (by show 0 + j < b.length; omega) ?_
            refine And.intro ⟨by show 0 + o.length ≤ o.length; omega, fun _ _ => rfl⟩ ?_
            refine And.intro ⟨Nat.le_of_ble_eq_true rfl, fun q hq => by have hq' : q < 1 := hq; obtain rfl : q = 0 := (by omega); rfl⟩ ?_
            refine And.intro (by show o.length + 1 ≤ 4294967296; omega) ?_
            repeat (first | refine And.intro (by kernel_rfl) ?_ | refine And.intro (by decide) ?_)
            refine ⟨⟨i, j + 1, o ++ [b.getD j zR]⟩, ⟨⟨hi, hj', by simp; omega, mrg_rightE (i := i) (j := j) hm (by omega) hj'⟩, by show (a.length - i) + (b.length - (j + 1)) < (a.length - i) + (b.length - j); omega⟩,
              isAt.go [(2, .to 4)] ⟨congrArg (fun n => SV.o (.c (.s 4 0 n 16))) (show o.length + 1 = (o ++ [b.getD j zR]).length by simp), rfl, congrArg (int .i64) wj', trivial⟩ ⟨leB.rows (by simp) (fun q hq => ?_) id, trivial⟩⟩
            have hq' : q < (o ++ [b.getD j zR]).length := hq
            exact (rowR (p := b.getD (0 + (j : Int).toNat) zR) o q (by simpa using hq')).trans (by rw [eJ]; rfl)
          · have hp : mrg a b = some (o ++ a.drop i) := mrg_endB (show b.length ≤ j by omega) hm
            rw [List.drop_eq_nil_of_le (show a.length ≤ i by omega), List.append_nil] at hp
            repeat (first | refine And.intro (by kernel_rfl) ?_ | refine And.intro (by decide) ?_)
            exact ⟨(o, 0), by simp only [joinF, he, if_true, hp], isEnd.go [(2, .to 2)] rfl ⟨.inl rfl, .inl rfl, .inl rfl, trivial⟩⟩
      · have he : wrF a b = 17 := by simp only [wrF, ga, gb, u1, u2, Bool.false_eq_true, Bool.true_eq_false, if_false, if_true]
        repeat (first | refine And.intro (by kernel_rfl) ?_ | refine And.intro (by decide) ?_)
        exact ⟨([], 17), by simp only [joinF, he]; rfl, isEnd.go [(2, .new 16)] rfl ⟨.inl rfl, .inl rfl, ⟨.inr ⟨rfl, Nat.le_of_ble_eq_true rfl, fun _ h => absurd h (Nat.not_lt_zero _)⟩, rfl⟩, trivial⟩⟩
    · have he : wrF a b = 17 := by simp only [wrF, ga, gb, u1, Bool.false_eq_true, Bool.true_eq_false, if_false, if_true]
      repeat (first | refine And.intro (by kernel_rfl) ?_ | refine And.intro (by decide) ?_)
      exact ⟨([], 17), by simp only [joinF, he]; rfl, isEnd.go [(2, .new 16)] rfl ⟨.inl rfl, .inl rfl, ⟨.inr ⟨rfl, Nat.le_of_ble_eq_true rfl, fun _ h => absurd h (Nat.not_lt_zero _)⟩, rfl⟩, trivial⟩⟩
end Go.Sx.T1
namespace Go.Sx.T1
open Go.Proofs
/-- two parts of a list that cover it -/
inductive Cov : List Rcd → List Rcd → List Rcd → Prop where
  | nil : Cov [] [] []
  | left (x : Rcd) {l a b : List Rcd} : Cov l a b → Cov (x :: l) (x :: a) b
  | right (x : Rcd) {l a b : List Rcd} : Cov l a b → Cov (x :: l) a (x :: b)
  | both (x : Rcd) {l a b : List Rcd} : Cov l a b → Cov (x :: l) (x :: a) (x :: b)
theorem Cov.symm {l a b : List Rcd} (h : Cov l a b) : Cov l b a := by
  induction h with
  | nil => exact .nil
  | left x _ ih => exact .right x ih
  | right x _ ih => exact .left x ih
  | both x _ ih => exact .both x ih
theorem Cov.self : ∀ l : List Rcd, Cov l l l
  | [] => .nil
  | x :: l => .both x (Cov.self l)
theorem Cov.subL {l a b : List Rcd} (h : Cov l a b) : a.Sublist l := by
  induction h with
  | nil => exact .slnil
  | left x _ ih => exact ih.cons_cons x
  | right x _ ih => exact ih.cons x
  | both x _ ih => exact ih.cons_cons x
theorem Cov.subR {l a b : List Rcd} (h : Cov l a b) : b.Sublist l := h.symm.subL
theorem Cov.endL {l a b : List Rcd} (h : Cov l a b) (x : Rcd) : Cov (l ++ [x]) (a ++ [x]) b := by
  induction h with
  | nil => exact .left x .nil
  | left y _ ih => exact .left y ih
  | right y _ ih => exact .right y ih
  | both y _ ih => exact .both y ih
theorem Cov.endR {l a b : List Rcd} (h : Cov l a b) (x : Rcd) : Cov (l ++ [x]) a (b ++ [x]) := (h.symm.endL x).symm
theorem Cov.endB {l a b : List Rcd} (h : Cov l a b) (x : Rcd) : Cov (l ++ [x]) (a ++ [x]) (b ++ [x]) := by
  induction h with
  | nil => exact .both x .nil
  | left y _ ih => exact .left y ih
  | right y _ ih => exact .right y ih
  | both y _ ih => exact .both y ih
theorem Cov.oneL {l a b : List Rcd} (h : Cov l a b) : b = [] → a = l := by
  induction h with
  | nil => exact fun _ => rfl
  | left x _ ih => exact fun e => by rw [ih e]
  | right x _ ih => exact fun e => by cases e
  | both x _ ih => exact fun e => by cases e
theorem mrg_cov {l a b : List Rcd} (h : Cov l a b) : l.Pairwise (fun r s => r.seq < s.seq) → mrg a b = some l := by
  induction h with
  | nil => exact fun _ => by simp [mrg]
  | left x hc ih =>
    rename_i l a b
    intro hp
    obtain ⟨h1, h2⟩ := List.pairwise_cons.1 hp
    cases b with
    | nil => rw [mrg_nil, hc.oneL rfl]
    | cons y b =>
      have hy := h1 y (hc.subR.subset (by simp))
      rw [mrg, if_neg (by rw [eqR_no (fun e => by rw [e] at hy; omega)]; simp), if_neg (by omega), if_pos hy, ih h2]
      rfl
  | right x hc ih =>
    rename_i l a b
    intro hp
    obtain ⟨h1, h2⟩ := List.pairwise_cons.1 hp
    cases a with
    | nil => rw [mrg, hc.symm.oneL rfl]
    | cons y a =>
      have hy := h1 y (hc.subL.subset (by simp))
      rw [mrg, if_neg (by rw [eqR_no (fun e => by rw [e] at hy; omega)]; simp), if_neg (by omega), if_neg (by omega), ih h2]
      rfl
  | both x hc ih =>
    intro hp
    obtain ⟨h1, h2⟩ := List.pairwise_cons.1 hp
    rw [mrg, if_pos (eqR_iff.2 rfl), ih h2]
    rfl
theorem asc_pair {l : List Rcd} (h : l.Pairwise (fun r s => r.seq < s.seq)) : ascB l = true := by
  refine asc_yes fun j h0 hj => ?_
  have := List.pairwise_iff_getElem.1 h (j - 1) j (by omega) hj (by omega)
  simp only [dwn, List.getD, List.getElem?_eq_getElem hj, List.getElem?_eq_getElem (show j - 1 < l.length by omega), Option.getD_some]
  exact decide_eq_false (by omega)
theorem bad_none {l : List Rcd} (h : ∀ r ∈ l, RcOk r) : l.any badR = false :=
  List.any_eq_false.2 fun r hr => by simp only [badR, okB_iff.2 (h r hr)]; simp
theorem join_cov {l a b : List Rcd} (hg : RcG l) (h : Cov l a b) : joinF a b = (l, 0) := by
  have va : a.any badR = false := bad_none fun r hr => (hg.v r (h.subL.subset hr)).ok
  have vb : b.any badR = false := bad_none fun r hr => (hg.v r (h.subR.subset hr)).ok
  have ua := asc_pair (hg.up.sublist h.subL)
  have ub := asc_pair (hg.up.sublist h.subR)
  have e : wrF a b = 0 := by simp only [wrF, va, vb, ua, ub, Bool.false_eq_true, Bool.true_eq_false, if_false]
  simp only [joinF, e, if_true, mrg_cov h hg.up]
end Go.Sx.T1
namespace Go.Sx.T1
open Go.Proofs
def n2 (p q : Int) : List C := [.v (.int .i64 p), .v (.int .i64 q)]
theorem mrg_len (a b : List Rcd) : ∀ l, mrg a b = some l → l.length ≤ a.length + b.length := by
  fun_induction mrg a b with
  | case1 b => intro l h; cases h; simp
  | case2 x a => intro l h; cases h; simp
  | case3 x a y b hc ih =>
    intro l h
    cases hm : mrg a b with
    | none => rw [hm] at h; cases h
    | some m => rw [hm] at h; cases h; have := ih m hm; simp; omega
  | case4 x a y b hc he => intro l h; cases h
  | case5 x a y b hc he hl ih =>
    intro l h
    cases hm : mrg a (y :: b) with
    | none => rw [hm] at h; cases h
    | some m => rw [hm] at h; cases h; have := ih m hm; simp at this ⊢; omega
  | case6 x a y b hc he hl ih =>
    intro l h
    cases hm : mrg (x :: a) b with
    | none => rw [hm] at h; cases h
    | some m => rw [hm] at h; cases h; have := ih m hm; simp at this ⊢; omega
theorem join_len (a b : List Rcd) : (joinF a b).1.length ≤ a.length + b.length := by
  unfold joinF
  split
  · split
    · rename_i l h; exact mrg_len a b l h
    · simp
  · simp
set_option maxHeartbeats 3200000 in
set_option maxRecDepth 10000 in
theorem agree_fc (a b : List Rcd) (bs : List Ban) (ha : a.length ≤ 100000) (hb : b.length ≤ 100000) (hc : bs.length ≤ 100000) (p q : Int) :
    FC Try.prog 17 [.o (.c (.s 0 0 a.length 16)), .o (.c (.s 1 0 b.length 16)), .o (.c (.s 2 0 bs.length 8)), .o (.a (n2 p q))] [recs a false, recs b false, bans bs false] (boo true) [recs a false, recs b false, bans bs false] := by
  refine FC.one (FC.rj mix Try.func17 ?_)
  repeat (first | refine And.intro (by kernel_rfl) ?_ | refine And.intro (by decide) ?_)
  refine FC.x (join_fc a b ha hb) [0, 1] (fun x hx => ?_)
  repeat (first | refine And.intro (by kernel_rfl) ?_ | refine And.intro (by decide) ?_)
  refine FC.x (refJoin_fc a b ha hb) [0, 1] (fun y hy => ?_)
  repeat (first | refine And.intro (by kernel_rfl) ?_ | refine And.intro (by decide) ?_)
  have hjl := join_len a b
  rw [← hx] at hjl
  obtain rfl : y = x := hy.trans hx.symm
  clear hy hx
  obtain ⟨l, e⟩ := y
  simp only at hjl
  refine ALoop.go (X := Nat) (fun i => i ≤ bs.length) (fun i => bs.length - i) [0, 1, 2, 7, 8, 9, 10, 11, 12] [0, 1, 2, 3, 4, 5] (fun i => [(13, int .i64 i)]) (fun _ => []) 0 (Nat.zero_le _) ⟨rfl, trivial⟩ trivial ?_
  intro i hi
  have ei : 0 + (i : Int).toNat = i := by simp
  dsimp only [headF, headM]
  refine bselD (fun h => ?_) (fun h => ?_)
  · have h' : i < bs.length := by omega
    have wi : IntKind.i64.wrap ((i : Int) + 1) = ((i + 1 : Nat) : Int) := wrap64_in (by omega) (by omega)
    repeat refine AJoin.plain ?_
    refine And.intro ⟨by omega, h⟩ ?_
    refine And.intro (by show 0 + i < bs.length; omega) ?_
    conv => whnf
    rw [ei]
    refine FC.u (known_fc a ha i (bs.getD i zB).st) [0] ?_
    refine And.intro ⟨by omega, h⟩ ?_
    refine And.intro (by show 0 + i < bs.length; omega) ?_
    conv => whnf
    rw [ei]
    refine FC.u (refKnown_fc a ha i (bs.getD i zB).st) [0] ?_
    repeat (first | refine And.intro (by kernel_rfl) ?_ | refine And.intro (by decide) ?_)
    refine bsel_intro (fun c => absurd c (by simp)) (fun _ => ?_)
    repeat (first | refine And.intro (by kernel_rfl) ?_ | refine And.intro (by decide) ?_)
    exact ⟨i + 1, ⟨by omega, by show bs.length - (i + 1) < bs.length - i; omega⟩, .id ⟨congrArg (int .i64) wi, trivial⟩ rfl trivial rfl⟩
  · refine bselE (fun _ => ?_) (fun c => absurd rfl c)
    refine FC.x (same_fc l l (by omega)) [4, 5] (fun c hc => ?_)
    obtain rfl := hc.2 rfl
    refine FC.x (fresh_fc a bs (by omega) (by omega)) [0, 2] (fun o ho => ?_)
    have bo : o.length ≤ bs.length := by rw [ho]; exact frs_len _ _ _
    refine FC.x (refFresh_fc a bs (by omega) (by omega)) [0, 2] (fun o' ho' => ?_)
    obtain rfl : o' = o := ho'.trans ho.symm
    refine FC.x (sameInts_fc o' o' (by omega)) [6, 7] (fun c2 hc2 => ?_)
    obtain rfl := hc2.2 rfl
    repeat (first | refine And.intro (by kernel_rfl) ?_ | refine And.intro (by decide) ?_)
    refine FC.u (missed_fc a (by omega) p q) [0] ?_
    repeat (first | refine And.intro (by kernel_rfl) ?_ | refine And.intro (by decide) ?_)
    refine FC.u (refMissed_fc a (by omega) p q) [0] ?_
    repeat (first | refine And.intro (by kernel_rfl) ?_ | refine And.intro (by decide) ?_)
    exact ⟨(), trivial, .id (congrArg boo (beq_self_eq_true _)) ⟨.inl rfl, .inl rfl, .inl rfl, trivial⟩⟩
end Go.Sx.T1
namespace Go.Sx.T1
open Go.Proofs
set_option maxHeartbeats 3200000 in
set_option maxRecDepth 10000 in
theorem oddRecord_x (ts : List Int) (k : Nat) (r : Rcd) (hl : ts.length ≤ 400) :
    ∃ x : Rcd × Nat, FC Try.prog 19 [.o (.c (.p 0 0 0)), .o (.a (rcC r))] [diceB ts k, diceL ts] (.o (.a (rcC x.1))) [diceB ts x.2, diceL ts] ∧ True := by
  refine FC.r mix Try.func19 ?_
  repeat (first | refine And.intro (by kernel_rfl) ?_ | refine And.intro (by decide) ?_)
  have b := dv_bd ts k (n := 10) (by omega)
  refine FC.x (next_x ts k 10 (by omega) hl) [0, 1] (fun v ev => ?_)
  rw [← ev] at b
  clear ev
  repeat (first | refine And.intro (by kernel_rfl) ?_ | refine And.intro (by decide) ?_)
  refine And.intro b (And.intro (by simp; omega) ?_)
  refine FC.x (next_x ts (k + 1) 6 (by omega) hl) [0, 1] (fun c ec => ?_)
  clear ec
  conv => whnf
  generalize List.getD [-1, 0, 15, 16, 4095, 4096, 4294967296, 4294967297, 1099511627776, 1099511627777] (0 + Int.toNat v) 0 = w
  refine bselE (fun h0 => ?_) (fun h0 => ?_)
  · repeat (first | refine And.intro (by kernel_rfl) ?_ | refine And.intro (by decide) ?_)
    exact ⟨({ r with seq := w }, k + 2), trivial, .id rfl ⟨.inl rfl, .inl rfl, trivial⟩⟩
  refine bselE (fun h1 => ?_) (fun h1 => ?_)
  · repeat (first | refine And.intro (by kernel_rfl) ?_ | refine And.intro (by decide) ?_)
    exact ⟨({ r with time := w }, k + 2), trivial, .id rfl ⟨.inl rfl, .inl rfl, trivial⟩⟩
  refine bselE (fun h2 => ?_) (fun h2 => ?_)
  · repeat (first | refine And.intro (by kernel_rfl) ?_ | refine And.intro (by decide) ?_)
    exact ⟨({ r with bank := w }, k + 2), trivial, .id rfl ⟨.inl rfl, .inl rfl, trivial⟩⟩
  refine bselE (fun h3 => ?_) (fun h3 => ?_)
  · repeat (first | refine And.intro (by kernel_rfl) ?_ | refine And.intro (by decide) ?_)
    exact ⟨({ r with pl := { r.pl with e := w } }, k + 2), trivial, .id rfl ⟨.inl rfl, .inl rfl, trivial⟩⟩
  refine bselE (fun h4 => ?_) (fun h4 => ?_)
  · repeat (first | refine And.intro (by kernel_rfl) ?_ | refine And.intro (by decide) ?_)
    exact ⟨({ r with st := zS }, k + 2), trivial, .id rfl ⟨.inl rfl, .inl rfl, trivial⟩⟩
  refine FC.u (oddStatus_fc ts (k + 2) r.st hl) [0, 1] ?_
  repeat (first | refine And.intro (by kernel_rfl) ?_ | refine And.intro (by decide) ?_)
  exact ⟨({ r with st := oddS ts (k + 2) r.st }, oddK ts (k + 2)), trivial, .id rfl ⟨.inl rfl, .inl rfl, trivial⟩⟩
end Go.Sx.T1
namespace Go.Sx.T1.Made
open Go.Proofs Go.Sx.T1
structure MM where
  i : Nat
  k : Nat
  a : List Rcd
  b : List Rcd
structure MB where
  n : Nat
  k : Nat
  bs : List Ban
theorem rowB {p : Ban} (l : List Ban) (j : Nat) (hj : j < l.length + 1) :
    (if j < l.length then banC (l.getD (0 + j) zB) else ((banC p).drop ((0 + (j - l.length)) * 8)).take 8) = banC ((l ++ [p]).getD j zB) := by
  by_cases h : j < l.length
  · rw [if_pos h, Nat.zero_add]
    simp [List.getD, List.getElem?_append_left h]
  · rw [if_neg h]
    obtain rfl : j = l.length := by omega
    rw [Nat.sub_self]
    simp [banC, List.getD]
theorem rowsN {l : List Rcd} : (fun i => rcC (l.getD (0 + i) zR)) = fun i => rcC (l.getD i zR) := by funext i; rw [Nat.zero_add]
theorem setR {r : Rcd} {a : List Rcd} {i : Nat} (h : i < a.length) (j : Nat) : (if j = i then rcC r else rcC (a.getD j zR)) = rcC ((a.set i r).getD j zR) := by
  simp only [List.getD_eq_getElem?_getD, List.getElem?_set]
  by_cases e : j = i
  · subst e; simp [h]
  · rw [if_neg e, if_neg (Ne.symm e)]
structure MK where
  k : Nat
  a : List Rcd
set_option maxHeartbeats 3200000 in
set_option maxRecDepth 10000 in
theorem law (ts : List Int) (next : Int) : FC Try.prog 6 [.o (.c (.s 0 0 ts.length 1)), int .i64 next] [diceL ts] (boo true) [diceL ts] := by
  refine FC.one (FC.rj mix Try.func6 ?_)
  refine FC.u (light_fc ts) [0] ?_
  refine bselNot (bsel_intro (fun h => ?_) (fun h => ?_))
  rotate_left
  · refine FC.u awake_fc [] ?_
    exact ⟨(), trivial, .id rfl ⟨.inl rfl, trivial⟩⟩
  have hl : ts.length ≤ 400 := of_decide_eq_true h
  refine FC.u (roll_fc ts) [0] ?_
  refine FC.x (records_fc ts 0 12 hl (by omega)) [1, 0] (fun x hx => ?_)
  obtain ⟨l, k⟩ := x
  obtain ⟨hg, hlen⟩ := hx
  simp only at hg hlen
  clear hg
  have rowE : ∀ (o : List Rcd) (i : Nat), i < l.length → ∀ j, j < (o ++ [l.getD i zR]).length → (if j < o.length then rcC (o.getD (0 + j) zR) else ((rcC (l.getD (0 + (i : Int).toNat) zR)).drop ((0 + (j - o.length)) * 16)).take 16) = rcC ((o ++ [l.getD i zR]).getD j zR) := fun o i _ j hj => by
    have := rowR (p := l.getD i zR) o j (by simpa using hj)
    simpa using this
  refine ALoop.goN (X := MM) (fun x => x.i ≤ l.length ∧ x.a.length ≤ x.i ∧ x.b.length ≤ x.i) (fun x => l.length - x.i) [1, 4, 5, 6, 9] [0, 2] (fun x => [(7, .o (.c (.s 3 0 x.a.length 16))), (8, .o (.c (.s 4 0 x.b.length 16))), (10, int .i64 x.i)])
    (fun x => [(1, ⟨.box [.s 0 0 ts.length 1, .v (.int .i64 (min x.k ts.length : Nat))], true⟩), (3, ⟨.rows 16 x.a.length (fun i => rcC (x.a.getD i zR)), true⟩), (4, ⟨.rows 16 x.b.length (fun i => rcC (x.b.getD i zR)), true⟩)]) ⟨0, k, [], []⟩ 5
    ⟨Nat.zero_le _, Nat.zero_le _, Nat.zero_le _⟩ (isAt.go [(3, .new 16), (4, .new 16)] ⟨rfl, rfl, rfl, trivial⟩ ⟨.inl rfl, ⟨.inr ⟨rfl, Nat.le_of_ble_eq_true rfl, fun _ h => absurd h (Nat.not_lt_zero _)⟩, rfl⟩, ⟨.inr ⟨rfl, Nat.le_of_ble_eq_true rfl, fun _ h => absurd h (Nat.not_lt_zero _)⟩, rfl⟩, trivial⟩) ?_
  rintro ⟨i, k, a, b⟩ ⟨hi, la, lb⟩
  simp only at hi la lb
  have ei : 0 + (i : Int).toNat = i := by simp
  dsimp only [headF, headM]
  refine bselD (fun h => ?_) (fun h => ?_)
  · have h' : i < l.length := by omega
    have wi : IntKind.i64.wrap ((i : Int) + 1) = ((i + 1 : Nat) : Int) := wrap64_in (by omega) (by omega)
    have rA := rowE a i h'
    have rB := rowE b i h'
    repeat refine AJoin.plain ?_
    have d3 := dv_bd ts k (n := 4) (by omega)
    refine FC.x (next_x ts k 4 (by omega) hl) [1, 0] (fun v ev => ?_)
    rw [← ev] at d3
    clear ev
    repeat refine AJoin.plain ?_
    refine bselD (fun c1 => ?_) (fun c1 => ?_)
    · repeat refine AJoin.plain ?_
      repeat (first | refine And.intro (by kernel_rfl) ?_ | refine And.intro (by decide) ?_)
      refine And.intro ⟨by omega, by omega⟩ ?_
      refine And.intro (by show 0 + i < l.length; omega) ?_
      refine And.intro ⟨by show 0 + (a).length ≤ (a).length; omega, fun _ _ => rfl⟩ ?_
      refine And.intro ⟨Nat.le_of_ble_eq_true rfl, fun q hq => by have hq' : q < 1 := hq; obtain rfl : q = 0 := (by omega); rfl⟩ ?_
      refine And.intro (by show (a).length + 1 ≤ 4294967296; omega) ?_
      repeat refine AJoin.plain ?_
      refine bselD (fun c2 => ?_) (fun c2 => ?_)
      · repeat refine AJoin.plain ?_
        repeat (first | refine And.intro (by kernel_rfl) ?_ | refine And.intro (by decide) ?_)
        refine And.intro ⟨by omega, by omega⟩ ?_
        refine And.intro (by show 0 + i < l.length; omega) ?_
        refine And.intro ⟨by show 0 + (b).length ≤ (b).length; omega, fun _ _ => rfl⟩ ?_
        refine And.intro ⟨Nat.le_of_ble_eq_true rfl, fun q hq => by have hq' : q < 1 := hq; obtain rfl : q = 0 := (by omega); rfl⟩ ?_
        refine And.intro (by show (b).length + 1 ≤ 4294967296; omega) ?_
        repeat (first | refine And.intro (by kernel_rfl) ?_ | refine And.intro (by decide) ?_)
        refine ⟨⟨i + 1, k + 1, a ++ [l.getD i zR], b ++ [l.getD i zR]⟩, ⟨⟨h', by simp; omega, by simp; omega⟩, by show l.length - (i + 1) < l.length - i; omega⟩,
          isAt.go [(3, .to 6), (4, .to 8)] ⟨congrArg (fun n => SV.o (.c (.s 6 0 n 16))) (show a.length + 1 = (a ++ [l.getD i zR]).length by simp), congrArg (fun n => SV.o (.c (.s 8 0 n 16))) (show b.length + 1 = (b ++ [l.getD i zR]).length by simp), congrArg (int .i64) wi, trivial⟩ ⟨.inl rfl, leB.rows (by simp) rA id, leB.rows (by simp) rB id, trivial⟩⟩
      · repeat refine AJoin.plain ?_
        repeat (first | refine And.intro (by kernel_rfl) ?_ | refine And.intro (by decide) ?_)
        refine ⟨⟨i + 1, k + 1, a ++ [l.getD i zR], b⟩, ⟨⟨h', by simp; omega, by show b.length ≤ i + 1; omega⟩, by show l.length - (i + 1) < l.length - i; omega⟩,
          isAt.go [(3, .to 6)] ⟨congrArg (fun n => SV.o (.c (.s 6 0 n 16))) (show a.length + 1 = (a ++ [l.getD i zR]).length by simp), rfl, congrArg (int .i64) wi, trivial⟩ ⟨.inl rfl, leB.rows (by simp) rA id, .inl rfl, trivial⟩⟩
    refine bselE (fun c3 => ?_) (fun c3 => ?_)
    · repeat refine AJoin.plain ?_
      repeat (first | refine And.intro (by kernel_rfl) ?_ | refine And.intro (by decide) ?_)
      refine And.intro ⟨by omega, by omega⟩ ?_
      refine And.intro (by show 0 + i < l.length; omega) ?_
      refine And.intro ⟨by show 0 + (a).length ≤ (a).length; omega, fun _ _ => rfl⟩ ?_
      refine And.intro ⟨Nat.le_of_ble_eq_true rfl, fun q hq => by have hq' : q < 1 := hq; obtain rfl : q = 0 := (by omega); rfl⟩ ?_
      refine And.intro (by show (a).length + 1 ≤ 4294967296; omega) ?_
      repeat refine AJoin.plain ?_
      refine bselD (fun c2 => ?_) (fun c2 => ?_)
      · repeat refine AJoin.plain ?_
        repeat (first | refine And.intro (by kernel_rfl) ?_ | refine And.intro (by decide) ?_)
        refine And.intro ⟨by omega, by omega⟩ ?_
        refine And.intro (by show 0 + i < l.length; omega) ?_
        refine And.intro ⟨by show 0 + (b).length ≤ (b).length; omega, fun _ _ => rfl⟩ ?_
        refine And.intro ⟨Nat.le_of_ble_eq_true rfl, fun q hq => by have hq' : q < 1 := hq; obtain rfl : q = 0 := (by omega); rfl⟩ ?_
        refine And.intro (by show (b).length + 1 ≤ 4294967296; omega) ?_
        repeat (first | refine And.intro (by kernel_rfl) ?_ | refine And.intro (by decide) ?_)
        refine ⟨⟨i + 1, k + 1, a ++ [l.getD i zR], b ++ [l.getD i zR]⟩, ⟨⟨h', by simp; omega, by simp; omega⟩, by show l.length - (i + 1) < l.length - i; omega⟩,
          isAt.go [(3, .to 6), (4, .to 8)] ⟨congrArg (fun n => SV.o (.c (.s 6 0 n 16))) (show a.length + 1 = (a ++ [l.getD i zR]).length by simp), congrArg (fun n => SV.o (.c (.s 8 0 n 16))) (show b.length + 1 = (b ++ [l.getD i zR]).length by simp), congrArg (int .i64) wi, trivial⟩ ⟨.inl rfl, leB.rows (by simp) rA id, leB.rows (by simp) rB id, trivial⟩⟩
      · repeat refine AJoin.plain ?_
        repeat (first | refine And.intro (by kernel_rfl) ?_ | refine And.intro (by decide) ?_)
        refine ⟨⟨i + 1, k + 1, a ++ [l.getD i zR], b⟩, ⟨⟨h', by simp; omega, by show b.length ≤ i + 1; omega⟩, by show l.length - (i + 1) < l.length - i; omega⟩,
          isAt.go [(3, .to 6)] ⟨congrArg (fun n => SV.o (.c (.s 6 0 n 16))) (show a.length + 1 = (a ++ [l.getD i zR]).length by simp), rfl, congrArg (int .i64) wi, trivial⟩ ⟨.inl rfl, leB.rows (by simp) rA id, .inl rfl, trivial⟩⟩
    repeat refine AJoin.plain ?_
    refine bselD (fun c2 => ?_) (fun c2 => absurd c2 (by omega))
    repeat refine AJoin.plain ?_
    repeat (first | refine And.intro (by kernel_rfl) ?_ | refine And.intro (by decide) ?_)
    refine And.intro ⟨by omega, by omega⟩ ?_
    refine And.intro (by show 0 + i < l.length; omega) ?_
    refine And.intro ⟨by show 0 + (b).length ≤ (b).length; omega, fun _ _ => rfl⟩ ?_
    refine And.intro ⟨Nat.le_of_ble_eq_true rfl, fun q hq => by have hq' : q < 1 := hq; obtain rfl : q = 0 := (by omega); rfl⟩ ?_
    refine And.intro (by show (b).length + 1 ≤ 4294967296; omega) ?_
    repeat (first | refine And.intro (by kernel_rfl) ?_ | refine And.intro (by decide) ?_)
    refine ⟨⟨i + 1, k + 1, a, b ++ [l.getD i zR]⟩, ⟨⟨h', by show a.length ≤ i + 1; omega, by simp; omega⟩, by show l.length - (i + 1) < l.length - i; omega⟩,
      isAt.go [(4, .to 6)] ⟨rfl, congrArg (fun n => SV.o (.c (.s 6 0 n 16))) (show b.length + 1 = (b ++ [l.getD i zR]).length by simp), congrArg (int .i64) wi, trivial⟩ ⟨.inl rfl, .inl rfl, leB.rows (by simp) rB id, trivial⟩⟩
  · repeat refine AJoin.plain ?_
    have d6 := dv_bd ts k (n := 6) (by omega)
    refine FC.x (next_x ts k 6 (by omega) hl) [1, 0] (fun n en => ?_)
    rw [← en] at d6
    clear en
    obtain ⟨n, rfl⟩ : ∃ m : Nat, n = m := ⟨n.toNat, by omega⟩
    refine ALoop.goN (X := MB) (fun x => x.n + x.bs.length ≤ 5) (fun x => x.n) [1, 4, 5, 6, 7, 8] [0, 2, 3, 4] (fun x => [(9, .o (.c (.s 5 0 x.bs.length 8))), (12, int .i64 x.n)])
      (fun x => [(1, ⟨.box [.s 0 0 ts.length 1, .v (.int .i64 (min x.k ts.length : Nat))], true⟩), (5, ⟨.rows 8 x.bs.length (fun i => banC (x.bs.getD i zB)), true⟩)]) ⟨n, k + 1, []⟩ 6
      (by show n + 0 ≤ 5; omega) (isAt.go [(5, .new 8)] ⟨rfl, rfl, trivial⟩ ⟨.inl rfl, ⟨.inr ⟨rfl, Nat.le_of_ble_eq_true rfl, fun _ h => absurd h (Nat.not_lt_zero _)⟩, rfl⟩, trivial⟩) ?_
    clear d6 rowE ei h
    rintro ⟨n, k, bs⟩ hn
    simp only at hn
    dsimp only [headF, headM]
    refine bselD (fun hgt => ?_) (fun hle => ?_)
    · have hn0 : 0 < n := by have : (n : Int) > 0 := hgt; omega
      have wn : IntKind.i64.wrap ((n : Int) - 1) = ((n - 1 : Nat) : Int) := by rw [wrap64_in (by omega) (by omega)]; omega
      repeat refine AJoin.plain ?_
      have a3 := dv_bd ts k (n := 256) (by omega)
      refine FC.x (next_x ts k 256 (by omega) hl) [1, 0] (fun n3 e3 => ?_)
      rw [← e3] at a3
      clear e3
      refine FC.x (status_x ts (k + 1) n3 hl (by omega) (by omega)) [1, 0] (fun u hu => ?_)
      clear hu
      repeat refine AJoin.plain ?_
      refine bselD (fun hp => ?_) (fun hp => ?_)
      · refine FC.x (one_x ts (k + 1 + 6) 2 (by omega) (by omega) hl) [1, 0] (fun v ev => ?_)
        clear ev
        repeat refine AJoin.plain ?_
        refine bsel_intro (fun hv => ?_) (fun hv => ?_)
        · subst hv
          have d7 := dv_bd ts (k + 1 + 6 + 1) (n := l.length) (by omega)
          refine FC.x (next_x ts (k + 1 + 6 + 1) l.length (by omega) hl) [1, 0] (fun q eq => ?_)
          rw [← eq] at d7
          clear eq
          repeat refine AJoin.plain ?_
          repeat (first | refine And.intro (by kernel_rfl) ?_ | refine And.intro (by decide) ?_)
          refine And.intro ⟨by omega, by omega⟩ ?_
          refine And.intro (by show 0 + q.toNat < l.length; omega) ?_
          repeat (first | refine And.intro (by kernel_rfl) ?_ | refine And.intro (by decide) ?_)
          refine And.intro ⟨by show 0 + bs.length ≤ bs.length; omega, fun _ _ => rfl⟩ ?_
          refine And.intro ⟨Nat.le_of_ble_eq_true rfl, fun q hq => by have hq' : q < 1 := hq; obtain rfl : q = 0 := (by omega); rfl⟩ ?_
          refine And.intro (by show bs.length + 1 ≤ 4294967296; omega) ?_
          repeat (first | refine And.intro (by kernel_rfl) ?_ | refine And.intro (by decide) ?_)
          refine ⟨⟨n - 1, k + 1 + 6 + 1 + 1, bs ++ [⟨(l.getD (0 + q.toNat) zR).st, 0⟩]⟩, ⟨by simp; omega, by show n - 1 < n; omega⟩, isAt.go [(5, .to 8)] ⟨congrArg (fun n => SV.o (.c (.s 8 0 n 8))) (show bs.length + 1 = (bs ++ [(⟨(l.getD (0 + q.toNat) zR).st, 0⟩ : Ban)]).length by simp), congrArg (int .i64) wn, trivial⟩ ⟨.inl rfl, leB.rows (by simp) (fun j hj => ?_) id, trivial⟩⟩
          have hj' : j < (bs ++ [(⟨(l.getD (0 + q.toNat) zR).st, 0⟩ : Ban)]).length := hj
          exact rowB (p := ⟨(l.getD (0 + q.toNat) zR).st, 0⟩) bs j (by simpa using hj')
        · subst hv
          repeat refine AJoin.plain ?_
          repeat (first | refine And.intro (by kernel_rfl) ?_ | refine And.intro (by decide) ?_)
          refine And.intro ⟨by show 0 + bs.length ≤ bs.length; omega, fun _ _ => rfl⟩ ?_
          refine And.intro ⟨Nat.le_of_ble_eq_true rfl, fun q hq => by have hq' : q < 1 := hq; obtain rfl : q = 0 := (by omega); rfl⟩ ?_
          refine And.intro (by show bs.length + 1 ≤ 4294967296; omega) ?_
          repeat (first | refine And.intro (by kernel_rfl) ?_ | refine And.intro (by decide) ?_)
          refine ⟨⟨n - 1, k + 1 + 6 + 1, bs ++ [⟨u, 0⟩]⟩, ⟨by simp; omega, by show n - 1 < n; omega⟩, isAt.go [(5, .to 8)] ⟨congrArg (fun n => SV.o (.c (.s 8 0 n 8))) (show bs.length + 1 = (bs ++ [(⟨u, 0⟩ : Ban)]).length by simp), congrArg (int .i64) wn, trivial⟩ ⟨.inl rfl, leB.rows (by simp) (fun j hj => ?_) id, trivial⟩⟩
          have hj' : j < (bs ++ [(⟨u, 0⟩ : Ban)]).length := hj
          exact rowB (p := ⟨u, 0⟩) bs j (by simpa using hj')
      · repeat refine AJoin.plain ?_
        repeat (first | refine And.intro (by kernel_rfl) ?_ | refine And.intro (by decide) ?_)
        refine And.intro ⟨by show 0 + bs.length ≤ bs.length; omega, fun _ _ => rfl⟩ ?_
        refine And.intro ⟨Nat.le_of_ble_eq_true rfl, fun q hq => by have hq' : q < 1 := hq; obtain rfl : q = 0 := (by omega); rfl⟩ ?_
        refine And.intro (by show bs.length + 1 ≤ 4294967296; omega) ?_
        repeat (first | refine And.intro (by kernel_rfl) ?_ | refine And.intro (by decide) ?_)
        refine ⟨⟨n - 1, k + 1 + 6, bs ++ [⟨u, 0⟩]⟩, ⟨by simp; omega, by show n - 1 < n; omega⟩, isAt.go [(5, .to 8)] ⟨congrArg (fun n => SV.o (.c (.s 8 0 n 8))) (show bs.length + 1 = (bs ++ [(⟨u, 0⟩ : Ban)]).length by simp), congrArg (int .i64) wn, trivial⟩ ⟨.inl rfl, leB.rows (by simp) (fun j hj => ?_) id, trivial⟩⟩
        have hj' : j < (bs ++ [(⟨u, 0⟩ : Ban)]).length := hj
        exact rowB (p := ⟨u, 0⟩) bs j (by simpa using hj')
    · refine AJoin.cutN (X := MK) (fun x => x.a.length ≤ 13) [1, 4, 5, 8, 9] [0, 2, 4, 5] (fun x => [(7, .o (.c (.s 3 0 x.a.length 16)))]) (fun x => [(1, ⟨.box [.s 0 0 ts.length 1, .v (.int .i64 (min x.k ts.length : Nat))], true⟩), (3, ⟨.rows 16 x.a.length (fun i => rcC (x.a.getD i zR)), true⟩)]) 6 ?_ ?_
      · refine bselD (fun hp => ?_) (fun hp => ?_)
        · refine FC.x (one_x ts k 3 (by omega) (by omega) hl) [1, 0] (fun v ev => ?_)
          clear ev
          refine bsel_intro (fun hv => ?_) (fun hv => ?_)
          · subst hv
            have d7 := dv_bd ts (k + 1) (n := a.length) (by omega)
            refine FC.x (next_x ts (k + 1) a.length (by omega) hl) [1, 0] (fun q eq => ?_)
            rw [← eq] at d7
            clear eq
            refine FC.x (next_x ts (k + 1 + 1) 3 (by omega) hl) [1, 0] (fun c ec => ?_)
            clear ec
            repeat refine AJoin.plain ?_
            refine bselE (fun c0 => ?_) (fun c0 => ?_)
            · repeat (first | refine And.intro (by kernel_rfl) ?_ | refine And.intro (by decide) ?_)
              refine And.intro ⟨by omega, by omega⟩ ?_
              refine And.intro (by show 0 + q.toNat < a.length; omega) ?_
              refine FC.x (oddRecord_x ts (k + 1 + 1 + 1) (a.getD (0 + q.toNat) zR) hl) [1, 0] (fun x hx => ?_)
              obtain ⟨r, k2⟩ := x
              repeat (first | refine And.intro (by kernel_rfl) ?_ | refine And.intro (by decide) ?_)
              refine And.intro ⟨by omega, by omega⟩ ?_
              refine And.intro (by show 0 + q.toNat < a.length; omega) ?_
              refine ⟨⟨k2, a.set (0 + q.toNat) r⟩, by simpa using (show a.length ≤ 13 by omega), .id ⟨congrArg (fun n => SV.o (.c (.s 3 0 n 16))) (show a.length = (a.set (0 + q.toNat) r).length by simp), trivial⟩ rfl ⟨.inl rfl, leB.rows (by simp) (fun j hj => ?_) id, trivial⟩ rfl⟩
              exact setR (r := r) (by omega) j
            · refine bselE (fun c1 => ?_) (fun c1 => ?_)
              · repeat (first | refine And.intro (by kernel_rfl) ?_ | refine And.intro (by decide) ?_)
                refine And.intro ⟨by omega, by omega⟩ ?_
                refine And.intro (by show 0 + q.toNat < a.length; omega) ?_
                repeat (first | refine And.intro (by kernel_rfl) ?_ | refine And.intro (by decide) ?_)
                refine And.intro ⟨by omega, by omega⟩ ?_
                refine And.intro (by show 0 + q.toNat < a.length; omega) ?_
                repeat (first | refine And.intro (by kernel_rfl) ?_ | refine And.intro (by decide) ?_)
                refine ⟨⟨k + 1 + 1 + 1, a.set (0 + q.toNat) { a.getD (0 + q.toNat) zR with time := IntKind.i64.wrap ((a.getD (0 + q.toNat) zR).time + 1) }⟩, by simpa using (show a.length ≤ 13 by omega), .id ⟨congrArg (fun n => SV.o (.c (.s 3 0 n 16))) (show a.length = (a.set (0 + q.toNat) _).length by simp), trivial⟩ rfl ⟨.inl rfl, leB.rows (by simp) (fun j hj => ?_) id, trivial⟩ rfl⟩
                exact setR (r := { a.getD (0 + q.toNat) zR with time := IntKind.i64.wrap ((a.getD (0 + q.toNat) zR).time + 1) }) (by omega) j
              · repeat (first | refine And.intro (by kernel_rfl) ?_ | refine And.intro (by decide) ?_)
                refine And.intro ⟨by omega, by omega⟩ ?_
                refine And.intro (by show 0 + q.toNat < a.length; omega) ?_
                refine And.intro ⟨by show 0 + a.length ≤ a.length; omega, fun _ _ => rfl⟩ ?_
                refine And.intro ⟨Nat.le_of_ble_eq_true rfl, fun q hq => by have hq' : q < 1 := hq; obtain rfl : q = 0 := (by omega); rfl⟩ ?_
                refine And.intro (by show a.length + 1 ≤ 4294967296; omega) ?_
                repeat (first | refine And.intro (by kernel_rfl) ?_ | refine And.intro (by decide) ?_)
                refine ⟨⟨k + 1 + 1 + 1, a ++ [a.getD (0 + q.toNat) zR]⟩, by simp; omega, isAt.go [(3, .to 7)] ⟨congrArg (fun n => SV.o (.c (.s 7 0 n 16))) (show a.length + 1 = (a ++ [a.getD (0 + q.toNat) zR]).length by simp), trivial⟩ ⟨.inl rfl, leB.rows (by simp) (fun j hj => ?_) id, trivial⟩⟩
                have hj' : j < (a ++ [a.getD (0 + q.toNat) zR]).length := hj
                exact rowR (p := a.getD (0 + q.toNat) zR) a j (by simpa using hj')
          · subst hv
            repeat refine AJoin.plain ?_
            exact ⟨⟨k + 1, a⟩, by show a.length ≤ 13; omega, .id ⟨rfl, trivial⟩ rfl ⟨.inl rfl, .inl rfl, trivial⟩ rfl⟩
        · repeat refine AJoin.plain ?_
          exact ⟨⟨k, a⟩, by show a.length ≤ 13; omega, .id ⟨rfl, trivial⟩ rfl ⟨.inl rfl, .inl rfl, trivial⟩ rfl⟩
      · rintro ⟨k, a⟩ ha
        simp only at ha
        refine FC.u awake_fc [] ?_
        have d8 := dv_bd ts k (n := 3) (by omega)
        refine FC.x (next_x ts k 3 (by omega) hl) [1, 0] (fun v ev => ?_)
        refine FC.u (agree_fc a b bs (by omega) (by omega) (by omega) v next) [3, 4, 5] ?_
        refine FC.x (next_x ts (k + 1) 3 (by omega) hl) [1, 0] (fun v2 ev2 => ?_)
        refine FC.u (mod_fc next 70000 (by omega)) [] ?_
        refine FC.u (agree_fc b a bs (by omega) (by omega) (by omega) v2 (IntKind.i64.wrap (mMod next 70000 - 100))) [4, 3, 5] ?_
        repeat (first | refine And.intro (by kernel_rfl) ?_ | refine And.intro (by decide) ?_)
        exact ⟨(), trivial, .id rfl ⟨.inl rfl, trivial⟩⟩
end Go.Sx.T1.Made
