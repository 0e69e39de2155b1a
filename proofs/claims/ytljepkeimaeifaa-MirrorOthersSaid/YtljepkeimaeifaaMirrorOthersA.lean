/- Contracts of the functions that MirrorOthers reaches, and the walk of the law, part 1. Conditions: none. -/
import Derived.Test.YtljepkeimaeifaaSxTwo
import Derived.Test.YtljepkeimaeifaaChecked
namespace Go.Sx.T1
open Go.Proofs

theorem mix : Try.prog.follows .mixedOrders = true := by kernel_rfl

def mMod (n m : Int) : Int := if m < 1 then 0 else n % m

theorem tmod_fix (n m : Int) (h : 1 ≤ m) : (n.tmod m < 0 → n.tmod m + m = n % m) ∧ (¬ n.tmod m < 0 → n.tmod m = n % m) := by
  have h1 := Int.emod_lt_of_pos n (show 0 < m by omega)
  have h2 := Int.emod_nonneg n (show m ≠ 0 by omega)
  rw [Int.tmod_eq_emod]
  split <;> omega

set_option maxRecDepth 10000 in
theorem mod_fc (n m : Int) (hm : m < 9223372036854775808) : FC Try.prog 17 [int .i64 n, int .i64 m] [] (int .i64 (mMod n m)) [] := by
  refine FC.b mix Try.func17 ?_
  refine bselD (fun h => ?_) (fun h => ?_)
  · exact ⟨congrArg (int .i64) (by simp [mMod, h]), trivial⟩
  · refine ⟨by omega, ?_⟩
    have hlt := Int.tmod_lt_of_pos n (show 0 < m by omega)
    have hgt := Int.lt_tmod_of_pos n (show 0 < m by omega)
    have e := tmod_fix n m (by omega)
    refine bselD (fun h2 => ?_) (fun h2 => ?_)
    · refine ⟨congrArg (int .i64) ?_, trivial⟩
      rw [wrap64_in (by omega) (by omega)]
      simp only [mMod, h, if_false]
      exact e.1 h2
    · exact ⟨congrArg (int .i64) (by simp [mMod, h]; exact e.2 h2), trivial⟩

/-- the dice: name 0 the two fields, name 1 the numbers; k numbers have been asked for -/
def diceB (ts : List Int) (k : Nat) : Option Blk := some ⟨.box [.s 1 0 ts.length 1, .v (.int .i64 (min k ts.length : Nat))], true⟩
def diceL (ts : List Int) : Option Blk := some ⟨.ints .i64 ts, false⟩
def dv (ts : List Int) (k : Nat) (n : Int) : Int := mMod (ts.getD k 0) n

set_option maxRecDepth 10000 in
theorem next_fc (ts : List Int) (k : Nat) (n : Int) (hn : n < 9223372036854775808) (hl : ts.length ≤ 400) :
    FC Try.prog 22 [.o (.c (.p 0 0 0)), int .i64 n] [diceB ts k, diceL ts] (int .i64 (dv ts k n)) [diceB ts (k + 1), diceL ts] := by
  refine FC.b mix Try.func22 ?_
  refine ⟨by kernel_rfl, ?_⟩
  refine bselD (fun h => ?_) (fun h => ?_)
  · have h' : ts.length ≤ k := by omega
    refine ⟨congrArg (int .i64) ?_, congrArg some ?_, rfl, trivial⟩
    · simp [dv, h', mMod]
    · simp [Nat.min_eq_right h', Nat.min_eq_right (Nat.le_succ_of_le h')]
  · have h' : k < ts.length := by omega
    have e : min k ts.length = k := Nat.min_eq_left (by omega)
    have e2 : min (k + 1) ts.length = k + 1 := Nat.min_eq_left (by omega)
    have w1 : IntKind.i64.wrap ((k : Int) + 1) = (k : Int) + 1 := wrap64_in (by omega) (by omega)
    have w2 : IntKind.i64.wrap ((k : Int) + 1 - 1) = (k : Int) := by rw [wrap64_in (by omega) (by omega)]; omega
    skip
    refine ⟨⟨?_, ?_⟩, ?_, ?_⟩
    · rw [e, w1, w2]; omega
    · rw [e, w1, w2]; omega
    · rw [e, w1, w2]; omega
    refine FC.use (mod_fc (ts.getD k 0) n hn) [] (congrArg (fun x => [int .i64 (ts.getD x 0), int .i64 n]) ?_) rfl trivial rfl rfl trivial ?_
    · rw [e, w1, w2]; simp
    refine ⟨by kernel_rfl, ?_⟩
    refine ⟨congrArg (int .i64) ?_, congrArg some ?_, rfl, trivial⟩
    · rfl
    · rw [e, w1, e2]; rfl
end Go.Sx.T1
namespace Go.Sx.T1
open Go.Proofs
set_option maxRecDepth 10000 in
theorem light_fc (ts : List Int) : FC Try.prog 7 [.o (.c (.s 0 0 ts.length 1))] [diceL ts] (boo (decide (ts.length ≤ 400))) [diceL ts] := by
  refine FC.b mix Try.func7 ?_
  exact ⟨congrArg boo (show decide ((ts.length : Int) ≤ 400) = decide (ts.length ≤ 400) by rw [Bool.eq_iff_iff]; simp; omega), rfl, trivial⟩
set_option maxRecDepth 10000 in
theorem roll_fc (ts : List Int) : FC Try.prog 9 [.o (.c (.s 0 0 ts.length 1))] [diceL ts] (.o (.c (.p 1 0 0))) [diceL ts, some ⟨.box [.s 0 0 ts.length 1, .v (.int .i64 0)], true⟩] := by
  refine FC.b mix Try.func9 ?_
  exact ⟨rfl, rfl, rfl, trivial⟩
theorem mMod_bd {n m : Int} (h : 1 ≤ m) : 0 ≤ mMod n m ∧ mMod n m < m := by
  unfold mMod
  rw [if_neg (by omega)]
  exact ⟨Int.emod_nonneg n (by omega), Int.emod_lt_of_pos n (by omega)⟩
theorem dv_bd (ts : List Int) (k : Nat) {n : Int} (h : 1 ≤ n) : 0 ≤ dv ts k n ∧ dv ts k n < n := mMod_bd h

theorem next_x (ts : List Int) (k : Nat) (n : Int) (hn : n < 9223372036854775808) (hl : ts.length ≤ 400) :
    ∃ v, FC Try.prog 22 [.o (.c (.p 0 0 0)), int .i64 n] [diceB ts k, diceL ts] (int .i64 v) [diceB ts (k + 1), diceL ts] ∧ v = dv ts k n := ⟨_, next_fc ts k n hn hl, rfl⟩
def u8s (xs : List Int) (wr : Bool) : Option Blk := some ⟨.ints .u8 xs, wr⟩
def i64s (xs : List Int) (wr : Bool) : Option Blk := some ⟨.ints .i64 xs, wr⟩
theorem newI (sz : Nat) {k : IntKind} (h : sz = 1) : Bk.fits (.ints k []) sz ∧ Bk.need (.ints k []) = 0 := ⟨.inr ⟨h, Nat.le_refl 1, fun _ h => absurd h (Nat.not_lt_zero _)⟩, rfl⟩
end Go.Sx.T1
namespace Go.Sx.T1
open Go.Proofs
def dBytes (ts : List Int) (k n : Nat) : List Int := (List.range n).map fun i => dv ts (k + i) 256
theorem dBytes_length (ts : List Int) (k n : Nat) : (dBytes ts k n).length = n := by simp [dBytes]
theorem dBytes_succ (ts : List Int) (k n : Nat) : dBytes ts k (n + 1) = dBytes ts k n ++ [dv ts (k + n) 256] := by simp [dBytes, List.range_succ]
theorem wrapU8_in {n : Int} (h1 : 0 ≤ n) (h2 : n < 256) : IntKind.u8.wrap n = n := by rw [IntKind.wrap_u8]; omega
set_option maxHeartbeats 1600000 in
set_option maxRecDepth 10000 in
theorem bytes_fc (ts : List Int) (k n : Nat) (hl : ts.length ≤ 400) (hn : n ≤ 100000) :
    FC Try.prog 23 [.o (.c (.p 0 0 0)), int .i64 n] [diceB ts k, diceL ts] (.o (.c (.s 2 0 n 1))) [diceB ts (k + n), diceL ts, u8s (dBytes ts k n) true] := by
  refine FC.one (FC.r mix Try.func23 ?_)
  refine ALoop.goN (X := Nat) (fun i => i ≤ n) (fun i => n - i) [0] [1] (fun i => [(1, int .i64 (n - i : Nat)), (5, .o (.c (.s 2 0 i 1)))])
    (fun i => [(0, ⟨.box [.s 1 0 ts.length 1, .v (.int .i64 (min (k + i) ts.length : Nat))], true⟩), (2, ⟨.ints .u8 (dBytes ts k i), true⟩)]) 0 3 (Nat.zero_le _)
    (isAt.go [(2, .new 1)] ⟨rfl, rfl, trivial⟩ ⟨.inl rfl, ⟨.inr ⟨rfl, Nat.le_refl 1, fun _ h => absurd h (Nat.not_lt_zero _)⟩, rfl⟩, trivial⟩) ?_
  intro i hi
  dsimp only [headF, headM]
  refine bselD (fun hgt => ?_) (fun hle => ?_)
  · have hlt : i < n := by have : ((n - i : Nat) : Int) > 0 := hgt; omega
    refine FC.u (next_fc ts (k + i) 256 (by omega) hl) [0, 1] ?_
    have hb := dv_bd ts (k + i) (n := 256) (by omega)
    refine And.intro ⟨by show 0 + i ≤ (dBytes ts k i).length; rw [dBytes_length]; omega, trivial⟩ ?_
    refine And.intro ⟨by show 0 + 1 ≤ 1; omega, trivial⟩ ?_
    refine And.intro (by omega) ?_
    have e1 : IntKind.i64.wrap (((n - i : Nat) : Int) - 1) = ((n - (i + 1) : Nat) : Int) := by rw [wrap64_in (by omega) (by omega)]; omega
    have e2 : ((dBytes ts k i).drop 0).take i ++ [IntKind.u8.wrap (dv ts (k + i) 256)] = dBytes ts k (i + 1) := by
      rw [dBytes_succ, wrapU8_in hb.1 hb.2, List.drop_zero, List.take_of_length_le (by rw [dBytes_length]; exact Nat.le_refl _)]
    exact ⟨i + 1, ⟨hlt, by simp only; omega⟩, isAt.go [(2, .to 4)] ⟨congrArg (int .i64) e1, rfl, trivial⟩ ⟨.inl rfl, .inl (congrArg (fun x => some (⟨.ints .u8 x, true⟩ : Blk)) e2), trivial⟩⟩
  · have hin : i = n := by have : ¬ ((n - i : Nat) : Int) > 0 := hle; omega
    subst hin
    exact ⟨(), trivial, .id rfl ⟨.inl rfl, .inl rfl, .inl rfl, trivial⟩⟩
end Go.Sx.T1
namespace Go.Sx.T1
open Go.Proofs
set_option maxRecDepth 10000 in
theorem cloneB (xs : List Int) (h32 : xs.length ≤ 4294967296) :
    FC Try.prog 31 [.o (.c (.s 0 0 xs.length 1))] [some ⟨.ints .u8 xs, false⟩] (.o (.c (.s 1 0 xs.length 1))) [some ⟨.ints .u8 xs, false⟩, some ⟨.ints .u8 xs, true⟩] := by
  have key : ∀ n, n = xs.length → FC Try.prog 31 [.o (.c (.s 0 0 n 1))] [some ⟨.ints .u8 xs, false⟩] (.o (.c (.s 1 0 n 1))) [some ⟨.ints .u8 xs, false⟩, some ⟨.ints .u8 xs, true⟩] := by
    intro n hn
    refine FC.nil3 (fun h0 => ?_) (fun h0 a cap => ?_) (fun k hk => ?_)
    · refine FC.one (FC.r mix Try.func31 ?_)
      subst h0
      have hx : xs = [] := List.eq_nil_of_length_eq_zero hn.symm
      subst hx
      exact ⟨(), trivial, isEnd.go [(1, .new 1)] rfl ⟨.inl rfl, newI 1 rfl, trivial⟩⟩
    · refine FC.one (FC.r mix Try.func31 ?_)
      subst h0
      have hx : xs = [] := List.eq_nil_of_length_eq_zero hn.symm
      subst hx
      refine And.intro (by decide) ?_
      exact ⟨(), trivial, .id rfl ⟨.inl rfl, leB.empty rfl rfl rfl rfl id, trivial⟩⟩
    · refine FC.one (FC.r mix Try.func31 ?_)
      subst hk
      refine And.intro ⟨by show 0 + (k + 1) ≤ xs.length; omega, trivial⟩ ?_
      refine And.intro (by omega) ?_
      refine ⟨(), trivial, .id (congrArg (fun n => SV.o (.c (.s 1 0 n 1))) (Nat.zero_add (k + 1))) ⟨.inl rfl, leB.ints_eq ?_ id, trivial⟩⟩
      show List.take (k + 1) (List.drop 0 xs) = xs
      rw [List.drop_zero, hn, List.take_length]
  exact key _ rfl
set_option maxRecDepth 10000 in
theorem cloneI (xs : List Int) (h32 : xs.length ≤ 4294967296) :
    FC Try.prog 32 [.o (.c (.s 0 0 xs.length 1))] [some ⟨.ints .i64 xs, false⟩] (.o (.c (.s 1 0 xs.length 1))) [some ⟨.ints .i64 xs, false⟩, some ⟨.ints .i64 xs, true⟩] := by
  have key : ∀ n, n = xs.length → FC Try.prog 32 [.o (.c (.s 0 0 n 1))] [some ⟨.ints .i64 xs, false⟩] (.o (.c (.s 1 0 n 1))) [some ⟨.ints .i64 xs, false⟩, some ⟨.ints .i64 xs, true⟩] := by
    intro n hn
    refine FC.nil3 (fun h0 => ?_) (fun h0 a cap => ?_) (fun k hk => ?_)
    · refine FC.one (FC.r mix Try.func32 ?_)
      subst h0
      have hx : xs = [] := List.eq_nil_of_length_eq_zero hn.symm
      subst hx
      exact ⟨(), trivial, isEnd.go [(1, .new 1)] rfl ⟨.inl rfl, newI 1 rfl, trivial⟩⟩
    · refine FC.one (FC.r mix Try.func32 ?_)
      subst h0
      have hx : xs = [] := List.eq_nil_of_length_eq_zero hn.symm
      subst hx
      refine And.intro (by decide) ?_
      exact ⟨(), trivial, .id rfl ⟨.inl rfl, leB.empty rfl rfl rfl rfl id, trivial⟩⟩
    · refine FC.one (FC.r mix Try.func32 ?_)
      subst hk
      refine And.intro ⟨by show 0 + (k + 1) ≤ xs.length; omega, trivial⟩ ?_
      refine And.intro (by omega) ?_
      refine ⟨(), trivial, .id (congrArg (fun n => SV.o (.c (.s 1 0 n 1))) (Nat.zero_add (k + 1))) ⟨.inl rfl, leB.ints_eq ?_ id, trivial⟩⟩
      show List.take (k + 1) (List.drop 0 xs) = xs
      rw [List.drop_zero, hn, List.take_length]
  exact key _ rfl
structure RD where
  o : Int
  W : List Int
  C : List Int
def rd0 (r : RD) (a b : Nat) : V1 := .a [.v (.int .i64 r.o), .s a 0 r.W.length 1, .s b 0 r.C.length 1]
def isGood (o : Int) : Bool := o == 0 || o == 1
structure RD.ok (r : RD) : Prop where
  w : r.W.length ≤ 4294967296
  c : r.C.length ≤ 4294967296
set_option maxHeartbeats 3200000 in
set_option maxRecDepth 10000 in
theorem good_fc (r : RD) : FC Try.prog 24 [.o (rd0 r 0 1)] [u8s r.W false, i64s r.C false] (boo (isGood r.o)) [u8s r.W false, i64s r.C false] := by
  refine FC.one (FC.r mix Try.func24 ?_)
  refine bselE (fun h => ?_) (fun h => ?_)
  · exact ⟨(), trivial, .id (congrArg boo (by have h' : r.o = 0 := h; simp [isGood, h'])) ⟨.inl rfl, .inl rfl, trivial⟩⟩
  · exact ⟨(), trivial, .id (congrArg boo (show (r.o == 1) = isGood r.o by have h' : ¬ r.o = 0 := h; simp [isGood, h'])) ⟨.inl rfl, .inl rfl, trivial⟩⟩
set_option maxHeartbeats 3200000 in
set_option maxRecDepth 10000 in
theorem goodR_fc (r : RD) : FC Try.prog 26 [.o (rd0 r 0 1)] [u8s r.W false, i64s r.C false] (boo (isGood r.o)) [u8s r.W false, i64s r.C false] := by
  refine FC.one (FC.r mix Try.func26 ?_)
  refine bselE (fun h => ?_) (fun h => ?_)
  · exact ⟨(), trivial, .id (congrArg boo (by have h' : r.o = 0 := h; simp [isGood, h'])) ⟨.inl rfl, .inl rfl, trivial⟩⟩
  · exact ⟨(), trivial, .id (congrArg boo (show (r.o == 1) = isGood r.o by have h' : ¬ r.o = 0 := h; simp [isGood, h'])) ⟨.inl rfl, .inl rfl, trivial⟩⟩
def own0 (r : RD) : Mem := [u8s r.W false, i64s r.C false, u8s r.W true, i64s r.C true]
set_option maxHeartbeats 3200000 in
set_option maxRecDepth 10000 in
theorem owned_fc (r : RD) (h : r.ok) : FC Try.prog 25 [.o (rd0 r 0 1)] [u8s r.W false, i64s r.C false] (.o (rd0 r 2 3)) (own0 r) := by
  refine FC.one (FC.r mix Try.func25 ?_)
  refine FC.u (cloneB r.W h.w) [0] ?_
  refine FC.u (cloneI r.C h.c) [1] ?_
  repeat (first | refine And.intro (by kernel_rfl) ?_ | refine And.intro (by decide) ?_)
  exact ⟨(), trivial, isEnd.go [(2, .to 4), (3, .to 5)] rfl ⟨.inl rfl, .inl rfl, .inl rfl, .inl rfl, trivial⟩⟩
set_option maxHeartbeats 3200000 in
set_option maxRecDepth 10000 in
theorem copy_fc (r : RD) (h : r.ok) : FC Try.prog 27 [.o (rd0 r 0 1)] [u8s r.W false, i64s r.C false] (.o (rd0 r 2 3)) (own0 r) := by
  refine FC.one (FC.r mix Try.func27 ?_)
  refine And.intro ⟨by show 0 + r.W.length ≤ r.W.length; omega, trivial⟩ ?_
  refine And.intro (by have := h.w; omega) ?_
  refine And.intro ⟨by show 0 + r.C.length ≤ r.C.length; omega, trivial⟩ ?_
  refine And.intro (by have := h.c; omega) ?_
  repeat (first | refine And.intro (by kernel_rfl) ?_ | refine And.intro (by decide) ?_)
  refine ⟨(), trivial, isEnd.go [(2, .to 4), (3, .to 5)] ?_ ⟨.inl rfl, .inl rfl, leB.ints_eq (by simp) id, leB.ints_eq (by simp) id, trivial⟩⟩
  show SV.o (.a [.v (.int .i64 r.o), .s 4 0 (0 + r.W.length) 1, .s 5 0 (0 + r.C.length) 1]) = SV.o (.a [.v (.int .i64 r.o), .s 4 0 r.W.length 1, .s 5 0 r.C.length 1])
  rw [Nat.zero_add, Nat.zero_add]
def joinF (a b : RD) : RD × Int := if !isGood a.o && isGood b.o then (⟨1, b.W, b.C⟩, 1) else (a, 0)
def joinS (p : RD × Int) : SV := .t [rd0 p.1 4 5, .c (.v (.int .i64 p.2))]
def joinM (a b : RD) (p : RD × Int) : Mem := [u8s a.W false, i64s a.C false, u8s b.W false, i64s b.C false, u8s p.1.W true, i64s p.1.C true]
set_option maxHeartbeats 3200000 in
set_option maxRecDepth 10000 in
theorem join_fc (a b : RD) (ha : a.ok) (hb : b.ok) : ∃ p : RD × Int, FC Try.prog 11 [.o (rd0 a 0 1), .o (rd0 b 2 3)] [u8s a.W false, i64s a.C false, u8s b.W false, i64s b.C false] (joinS p) (joinM a b p) ∧ p = joinF a b := by
  refine FC.r mix Try.func11 ?_
  refine FC.u (good_fc a) [0, 1] ?_
  refine bselNot (bsel_intro (fun h => ?_) (fun h => ?_))
  · refine FC.u (owned_fc a ha) [0, 1] ?_
    exact ⟨(a, 0), by simp [joinF, h], isEnd.go [(4, .to 7), (5, .to 8)] rfl ⟨.inl rfl, .inl rfl, .inl rfl, .inl rfl, .inl rfl, .inl rfl, trivial⟩⟩
  · refine FC.u (good_fc b) [2, 3] ?_
    refine bsel_intro (fun h2 => ?_) (fun h2 => ?_)
    · refine FC.u (owned_fc b hb) [2, 3] ?_
      exact ⟨(⟨1, b.W, b.C⟩, 1), by simp [joinF, h, h2], isEnd.go [(4, .to 7), (5, .to 8)] rfl ⟨.inl rfl, .inl rfl, .inl rfl, .inl rfl, .inl rfl, .inl rfl, trivial⟩⟩
    · refine FC.u (owned_fc a ha) [0, 1] ?_
      exact ⟨(a, 0), by simp [joinF, h, h2], isEnd.go [(4, .to 7), (5, .to 8)] rfl ⟨.inl rfl, .inl rfl, .inl rfl, .inl rfl, .inl rfl, .inl rfl, trivial⟩⟩
set_option maxHeartbeats 3200000 in
set_option maxRecDepth 10000 in
theorem joinR_fc (a b : RD) (ha : a.ok) (hb : b.ok) : ∃ p : RD × Int, FC Try.prog 12 [.o (rd0 a 0 1), .o (rd0 b 2 3)] [u8s a.W false, i64s a.C false, u8s b.W false, i64s b.C false] (joinS p) (joinM a b p) ∧ p = joinF a b := by
  refine FC.r mix Try.func12 ?_
  refine FC.u (goodR_fc a) [0, 1] ?_
  refine bselNot (bsel_intro (fun h => ?_) (fun h => ?_))
  · refine FC.u (copy_fc a ha) [0, 1] ?_
    exact ⟨(a, 0), by simp [joinF, h], isEnd.go [(4, .to 7), (5, .to 8)] rfl ⟨.inl rfl, .inl rfl, .inl rfl, .inl rfl, .inl rfl, .inl rfl, trivial⟩⟩
  · refine FC.u (goodR_fc b) [2, 3] ?_
    refine bsel_intro (fun h2 => ?_) (fun h2 => ?_)
    · refine FC.u (copy_fc b hb) [2, 3] ?_
      exact ⟨(⟨1, b.W, b.C⟩, 1), by simp [joinF, h, h2], isEnd.go [(4, .to 7), (5, .to 8)] rfl ⟨.inl rfl, .inl rfl, .inl rfl, .inl rfl, .inl rfl, .inl rfl, trivial⟩⟩
    · refine FC.u (copy_fc a ha) [0, 1] ?_
      exact ⟨(a, 0), by simp [joinF, h, h2], isEnd.go [(4, .to 7), (5, .to 8)] rfl ⟨.inl rfl, .inl rfl, .inl rfl, .inl rfl, .inl rfl, .inl rfl, trivial⟩⟩
end Go.Sx.T1
namespace Go.Sx.T1
open Go.Proofs
def repF (a b : RD) : Bool × Bool := (!isGood a.o && isGood b.o, isGood a.o && !isGood b.o)
def repS (p : Bool × Bool) : SV := .t [.c (.v (.bool p.1)), .c (.v (.bool p.2))]
set_option maxHeartbeats 3200000 in
set_option maxRecDepth 10000 in
theorem repair_fc (a b : RD) : ∃ p : Bool × Bool, FC Try.prog 13 [.o (rd0 a 0 1), .o (rd0 b 2 3)] [u8s a.W false, i64s a.C false, u8s b.W false, i64s b.C false] (repS p) [u8s a.W false, i64s a.C false, u8s b.W false, i64s b.C false] ∧ p = repF a b := by
  refine FC.r mix Try.func13 ?_
  refine FC.u (good_fc a) [0, 1] ?_
  refine bselNot (bsel_intro (fun h => ?_) (fun h => ?_))
  · refine FC.u (good_fc a) [0, 1] ?_
    refine bselT h ?_
    refine FC.u (good_fc b) [2, 3] ?_
    repeat (first | refine And.intro (by kernel_rfl) ?_ | refine And.intro (by decide) ?_)
    exact ⟨(false, !isGood b.o), by simp [repF, h], .id rfl ⟨.inl rfl, .inl rfl, .inl rfl, .inl rfl, trivial⟩⟩
  · refine FC.u (good_fc b) [2, 3] ?_
    refine FC.u (good_fc a) [0, 1] ?_
    refine bselF h ?_
    repeat (first | refine And.intro (by kernel_rfl) ?_ | refine And.intro (by decide) ?_)
    exact ⟨(isGood b.o, false), by simp [repF, h], .id rfl ⟨.inl rfl, .inl rfl, .inl rfl, .inl rfl, trivial⟩⟩
set_option maxHeartbeats 3200000 in
set_option maxRecDepth 10000 in
theorem repairR_fc (a b : RD) : ∃ p : Bool × Bool, FC Try.prog 14 [.o (rd0 a 0 1), .o (rd0 b 2 3)] [u8s a.W false, i64s a.C false, u8s b.W false, i64s b.C false] (repS p) [u8s a.W false, i64s a.C false, u8s b.W false, i64s b.C false] ∧ p = repF a b := by
  refine FC.r mix Try.func14 ?_
  refine FC.u (goodR_fc a) [0, 1] ?_
  refine bselNot (bsel_intro (fun h => ?_) (fun h => ?_))
  · refine FC.u (goodR_fc a) [0, 1] ?_
    refine bselT h ?_
    refine FC.u (goodR_fc b) [2, 3] ?_
    repeat (first | refine And.intro (by kernel_rfl) ?_ | refine And.intro (by decide) ?_)
    exact ⟨(false, !isGood b.o), by simp [repF, h], .id rfl ⟨.inl rfl, .inl rfl, .inl rfl, .inl rfl, trivial⟩⟩
  · refine FC.u (goodR_fc b) [2, 3] ?_
    refine FC.u (goodR_fc a) [0, 1] ?_
    refine bselF h ?_
    repeat (first | refine And.intro (by kernel_rfl) ?_ | refine And.intro (by decide) ?_)
    exact ⟨(isGood b.o, false), by simp [repF, h], .id rfl ⟨.inl rfl, .inl rfl, .inl rfl, .inl rfl, trivial⟩⟩
theorem bneI (a : Int) : (a != a) = false := by simp
theorem bneB (a : Bool) : (a != a) = false := by simp
theorem bneS (xs : List Int) : (!(bytesOf xs == bytesOf xs)) = false := by rw [bytesOf_same]; rfl
set_option maxHeartbeats 3200000 in
set_option maxRecDepth 10000 in
theorem same_fc (r : RD) (hC : r.C.length ≤ 4294967296) : FC Try.prog 15 [.o (rd0 r 0 1), .o (rd0 r 2 3)] [u8s r.W false, i64s r.C false, u8s r.W false, i64s r.C false] (boo true) [u8s r.W false, i64s r.C false, u8s r.W false, i64s r.C false] := by
  refine FC.one (FC.rj mix Try.func15 ?_)
  refine bselF (bneI _) ?_
  refine And.intro (by show 0 + r.W.length ≤ r.W.length; omega) ?_
  refine And.intro (by show 0 + r.W.length ≤ r.W.length; omega) ?_
  refine bselF (bneS _) ?_
  refine bselF (bneI _) ?_
  repeat refine AJoin.plain ?_
  refine ALoop.go (X := Nat) (fun i => i ≤ r.C.length) (fun i => r.C.length - i) [2, 3, 31, 32] [0, 1, 2, 3, 4, 5] (fun i => [(33, int .i64 i)])
    (fun _ => []) 0 (Nat.zero_le _) ⟨rfl, trivial⟩ trivial ?_
  intro i hi
  dsimp only [headF, headM]
  refine bselD (fun h => ?_) (fun h => ?_)
  · have h' : i < r.C.length := by omega
    have wi : IntKind.i64.wrap ((i : Int) + 1) = ((i + 1 : Nat) : Int) := wrap64_in (by omega) (by omega)
    repeat refine AJoin.plain ?_
    refine And.intro ⟨by omega, by omega⟩ ?_
    refine And.intro (by show 0 + i < r.C.length; omega) ?_
    repeat (first | refine And.intro (by kernel_rfl) ?_ | refine And.intro (by decide) ?_)
    repeat refine AJoin.plain ?_
    refine And.intro ⟨by omega, by omega⟩ ?_
    refine And.intro (by show 0 + i < r.C.length; omega) ?_
    repeat (first | refine And.intro (by kernel_rfl) ?_ | refine And.intro (by decide) ?_)
    refine bselF (bneI _) ?_
    repeat (first | refine And.intro (by kernel_rfl) ?_ | refine And.intro (by decide) ?_)
    exact ⟨i + 1, ⟨by omega, by show r.C.length - (i + 1) < r.C.length - i; omega⟩, .id ⟨congrArg (int .i64) wi, trivial⟩ rfl trivial rfl⟩
  · first | exact ⟨(), trivial, .id rfl ⟨.inl rfl, .inl rfl, .inl rfl, .inl rfl, trivial⟩⟩ | exact And.intro (by kernel_rfl) ⟨(), trivial, .id rfl ⟨.inl rfl, .inl rfl, .inl rfl, .inl rfl, trivial⟩⟩
theorem bytes_b (ts : List Int) (k n : Nat) (hl : ts.length ≤ 400) (hn : n ≤ 100000) :
    ∃ D : List Int, FC Try.prog 23 [.o (.c (.p 0 0 0)), int .i64 n] [diceB ts k, diceL ts] (.o (.c (.s 2 0 n 1))) [diceB ts (k + n), diceL ts, u8s D true] ∧ D.length = n ∧ ∀ j, 0 ≤ D.getD j 0 ∧ D.getD j 0 < 256 := by
  refine ⟨dBytes ts k n, bytes_fc ts k n hl hn, dBytes_length ts k n, fun j => ?_⟩
  by_cases hj : j < n
  · have : (dBytes ts k n).getD j 0 = dv ts (k + j) 256 := by simp [dBytes, hj]
    rw [this]
    exact dv_bd ts (k + j) (n := 256) (by omega)
  · have : (dBytes ts k n).getD j 0 = 0 := by simp [dBytes, hj]
    rw [this]
    omega
def rdM (ts : List Int) (x : RD × Nat) : Mem := [diceB ts x.2, diceL ts, u8s x.1.W true, i64s x.1.C true]
structure Made (r : RD) : Prop where
  o : 0 ≤ r.o ∧ r.o < 4
  w : r.W.length = if r.o ≤ 1 then 2 else 0
  c : r.C.length ≤ 1
  bt : ∀ j, 0 ≤ r.W.getD j 0 ∧ r.W.getD j 0 < 256
set_option maxHeartbeats 3200000 in
set_option maxRecDepth 10000 in
theorem reading_fc (ts : List Int) (k : Nat) (hl : ts.length ≤ 400) : ∃ x : RD × Nat, FC Try.prog 10 [.o (.c (.p 0 0 0))] [diceB ts k, diceL ts] (.o (rd0 x.1 2 3)) (rdM ts x) ∧ Made x.1 := by
  refine FC.r mix Try.func10 ?_
  have ho := dv_bd ts k (n := 4) (by omega)
  refine FC.x (next_x ts k 4 (by omega) hl) [0, 1] (fun o eo => ?_)
  rw [← eo] at ho
  refine bselD (fun h => ?_) (fun h => ?_)
  · refine FC.x (bytes_b ts (k + 1) 2 hl (by omega)) [0, 1] (fun W ⟨lW, hW⟩ => ?_)
    refine bselE (fun h1 => ?_) (fun h1 => ?_)
    · refine FC.x (next_x ts (k + 1 + 2) 4 (by omega) hl) [0, 1] (fun c ec => ?_)
      refine ⟨(⟨o, W, [c]⟩, k + 1 + 2 + 1), ⟨ho, by simp [lW, h], by simp, hW⟩, isEnd.go [(2, .to 4), (3, .to 5)] ?_ ⟨.inl rfl, .inl rfl, .inl rfl, .inl rfl, trivial⟩⟩
      show SV.o (.a [.v (.int .i64 o), .s 4 0 2 1, .s 5 0 1 1]) = SV.o (.a [.v (.int .i64 o), .s 4 0 W.length 1, .s 5 0 1 1])
      rw [lW]
    · refine ⟨(⟨o, W, []⟩, k + 1 + 2), ⟨ho, by simp [lW, h], by simp, hW⟩, isEnd.go [(2, .to 4), (3, .new 1)] ?_ ⟨.inl rfl, .inl rfl, .inl rfl, newI 1 rfl, trivial⟩⟩
      show SV.o (.a [.v (.int .i64 o), .s 4 0 2 1, .v (.slice none 0 0)]) = SV.o (.a [.v (.int .i64 o), .s 4 0 W.length 1, .v (.slice none 0 0)])
      rw [lW]
  · refine bselE (fun h1 => by exfalso; have h1' : o = 1 := h1; exact h (by omega)) (fun h1 => ?_)
    exact ⟨(⟨o, [], []⟩, k + 1), ⟨ho, by simp [h], by simp, fun j => by simp⟩, isEnd.go [(2, .new 1), (3, .new 1)] rfl ⟨.inl rfl, .inl rfl, newI 1 rfl, newI 1 rfl, trivial⟩⟩
end Go.Sx.T1
namespace Go.Sx.T1
open Go.Proofs
structure Pr where
  f : Int
  s : Int
  c : Int
def Pr.z : Pr := ⟨0, 0, 0⟩
def prC (p : Pr) : List C := [.v (.int .i64 p.f), .v (.int .i64 p.s), .v (.int .i64 p.c)]
def prs (l : List Pr) (wr : Bool) : Option Blk := some ⟨.rows 3 l.length (fun i => prC (l.getD i .z)), wr⟩
def inF (a f c : Int) : Bool := decide (a ≥ f) && decide (IntKind.i64.wrap (a - f) < c)
set_option maxHeartbeats 3200000 in
set_option maxRecDepth 10000 in
theorem in_fc (a f c : Int) : FC Try.prog 30 [int .i64 f, int .i64 c, .o (.c (.p 0 0 0))] [some ⟨.box [.v (.int .i64 a)], false⟩] (boo (inF a f c)) [some ⟨.box [.v (.int .i64 a)], false⟩] := by
  refine FC.one (FC.r mix Try.func30 ?_)
  refine bselD (fun h => ?_) (fun h => ?_)
  · exact ⟨(), trivial, .id (congrArg boo (show decide (IntKind.i64.wrap (a - f) < c) = inF a f c by simp [inF, h])) ⟨.inl rfl, trivial⟩⟩
  · exact ⟨(), trivial, .id (congrArg boo (show false = inF a f c by simp [inF, h])) ⟨.inl rfl, trivial⟩⟩
def movF (a f s : Int) : Int := IntKind.i64.wrap (IntKind.i64.wrap (s + a) - f)
def othF (a : Int) : List Pr → Int × Bool
  | [] => (0, false)
  | p :: l => if inF a p.f p.c then (movF a p.f p.s, true) else if inF a p.s p.c then (movF a p.s p.f, true) else othF a l
def othS (r : Int × Bool) : SV := .t [.c (.v (.int .i64 r.1)), .c (.v (.bool r.2))]
theorem dropP {l : List Pr} {i : Nat} (h : i < l.length) : l.drop i = l.getD i .z :: l.drop (i + 1) := by
  rw [List.drop_eq_getElem_cons h]; simp [List.getD, List.getElem?_eq_getElem h]
set_option maxHeartbeats 3200000 in
set_option maxRecDepth 10000 in
theorem other_fc (l : List Pr) (a : Int) (hl : l.length ≤ 1000) : ∃ r : Int × Bool, FC Try.prog 20 [.o (.c (.s 0 0 l.length 3)), int .i64 a] [prs l false] (othS r) [prs l false] ∧ r = othF a l := by
  refine FC.rj mix Try.func20 ?_
  refine ALoop.go (X := Nat) (fun i => i ≤ l.length ∧ othF a l = othF a (l.drop i)) (fun i => l.length - i) [3, 6, 10, 11] [0, 1] (fun i => [(12, int .i64 i)])
    (fun _ => []) 0 ⟨Nat.zero_le _, rfl⟩ ⟨rfl, trivial⟩ trivial ?_
  rintro i ⟨hi, e⟩
  dsimp only [headF, headM]
  refine bselD (fun h => ?_) (fun h => ?_)
  · have h' : i < l.length := by omega
    have wi : IntKind.i64.wrap ((i : Int) + 1) = ((i + 1 : Nat) : Int) := wrap64_in (by omega) (by omega)
    rw [dropP h'] at e
    repeat refine AJoin.plain ?_
    refine And.intro ⟨by omega, by omega⟩ ?_
    refine And.intro (by show 0 + i < l.length; omega) ?_
    refine FC.u (in_fc a (l.getD (0 + i) .z).f (l.getD (0 + i) .z).c) [1] ?_
    refine bsel_intro (fun c1 => ?_) (fun c1 => ?_)
    · rw [Nat.zero_add] at c1
      exact ⟨(movF a (l.getD (0 + i) .z).f (l.getD (0 + i) .z).s, true), by rw [e]; simp only [othF, c1, Bool.false_eq_true, if_true, if_false, Nat.zero_add], .id rfl ⟨.inl rfl, trivial⟩⟩
    · repeat refine AJoin.plain ?_
      refine FC.u (in_fc a (l.getD (0 + i) .z).s (l.getD (0 + i) .z).c) [1] ?_
      refine bsel_intro (fun c2 => ?_) (fun c2 => ?_)
      · rw [Nat.zero_add] at c1 c2
        exact ⟨(movF a (l.getD (0 + i) .z).s (l.getD (0 + i) .z).f, true), by rw [e]; simp only [othF, c1, c2, Bool.false_eq_true, if_true, if_false, Nat.zero_add], .id rfl ⟨.inl rfl, trivial⟩⟩
      · rw [Nat.zero_add] at c1 c2
        refine ⟨i + 1, ⟨⟨by omega, by rw [e]; simp only [othF, c1, c2, Bool.false_eq_true, if_true, if_false, Nat.zero_add]⟩, by show l.length - (i + 1) < l.length - i; omega⟩, .id ⟨congrArg (int .i64) wi, trivial⟩ rfl trivial rfl⟩
  · have h' : i = l.length := by omega
    exact ⟨(0, false), by rw [e, List.drop_eq_nil_of_le (by omega)]; rfl, .id rfl ⟨.inl rfl, trivial⟩⟩
set_option maxHeartbeats 3200000 in
set_option maxRecDepth 10000 in
theorem otherR_fc (l : List Pr) (a : Int) (hl : l.length ≤ 1000) : ∃ r : Int × Bool, FC Try.prog 21 [.o (.c (.s 0 0 l.length 3)), int .i64 a] [prs l false] (othS r) [prs l false] ∧ r = othF a l := by
  refine FC.rj mix Try.func21 ?_
  refine ALoop.go (X := Nat) (fun i => i ≤ l.length ∧ othF a l = othF a (l.drop i)) (fun i => l.length - i) [1, 8, 9] [0] (fun i => [(10, int .i64 i)])
    (fun _ => []) 0 ⟨Nat.zero_le _, rfl⟩ ⟨rfl, trivial⟩ trivial ?_
  rintro i ⟨hi, e⟩
  dsimp only [headF, headM]
  refine bselD (fun h => ?_) (fun h => ?_)
  · have h' : i < l.length := by omega
    have wi : IntKind.i64.wrap ((i : Int) + 1) = ((i + 1 : Nat) : Int) := wrap64_in (by omega) (by omega)
    rw [dropP h'] at e
    have nxt : inF a (l.getD i .z).f (l.getD i .z).c = false → inF a (l.getD i .z).s (l.getD i .z).c = false → othF a l = othF a (l.drop (i + 1)) := fun h1 h2 => by rw [e]; simp only [othF, h1, h2, Bool.false_eq_true, if_true, if_false, Nat.zero_add]
    have fst : inF a (l.getD i .z).f (l.getD i .z).c = true → (movF a (l.getD i .z).f (l.getD i .z).s, true) = othF a l := fun h1 => by rw [e]; simp only [othF, h1, Bool.false_eq_true, if_true, if_false, Nat.zero_add]
    have snd : inF a (l.getD i .z).f (l.getD i .z).c = false → inF a (l.getD i .z).s (l.getD i .z).c = true → (movF a (l.getD i .z).s (l.getD i .z).f, true) = othF a l := fun h1 h2 => by rw [e]; simp only [othF, h1, h2, Bool.false_eq_true, if_true, if_false, Nat.zero_add]
    repeat refine AJoin.plain ?_
    refine And.intro ⟨by omega, by omega⟩ ?_
    refine And.intro (by show 0 + i < l.length; omega) ?_
    repeat refine AJoin.plain ?_
    conv => whnf
    rw [show 0 + (i : Int).toNat = i by omega]
    generalize l.getD i .z = p at fst snd nxt
    refine bselD (fun c1 => bselD (fun c2 => ?_) (fun c2 => ?_)) (fun c1 => ?_)
    · exact ⟨_, fst (by simp only [inF, decide_eq_true c1, decide_eq_true c2, Bool.and_true]), .id rfl ⟨.inl rfl, trivial⟩⟩
    · have f1 : inF a p.f p.c = false := by simp only [inF, decide_eq_true c1, decide_eq_false c2, Bool.and_false]
      repeat refine AJoin.plain ?_
      refine bselD (fun d1 => bselD (fun d2 => ?_) (fun d2 => ?_)) (fun d1 => ?_)
      · exact ⟨_, snd f1 (by simp only [inF, decide_eq_true d1, decide_eq_true d2, Bool.and_true]), .id rfl ⟨.inl rfl, trivial⟩⟩
      · exact ⟨i + 1, ⟨⟨by omega, nxt f1 (by simp only [inF, decide_eq_true d1, decide_eq_false d2, Bool.and_false])⟩, by show l.length - (i + 1) < l.length - i; omega⟩, .id ⟨congrArg (int .i64) wi, trivial⟩ rfl trivial rfl⟩
      · exact ⟨i + 1, ⟨⟨by omega, nxt f1 (by simp only [inF, decide_eq_false d1, Bool.false_and])⟩, by show l.length - (i + 1) < l.length - i; omega⟩, .id ⟨congrArg (int .i64) wi, trivial⟩ rfl trivial rfl⟩
    · have f1 : inF a p.f p.c = false := by simp only [inF, decide_eq_false c1, Bool.false_and]
      repeat refine AJoin.plain ?_
      refine bselD (fun d1 => bselD (fun d2 => ?_) (fun d2 => ?_)) (fun d1 => ?_)
      · exact ⟨_, snd f1 (by simp only [inF, decide_eq_true d1, decide_eq_true d2, Bool.and_true]), .id rfl ⟨.inl rfl, trivial⟩⟩
      · exact ⟨i + 1, ⟨⟨by omega, nxt f1 (by simp only [inF, decide_eq_true d1, decide_eq_false d2, Bool.and_false])⟩, by show l.length - (i + 1) < l.length - i; omega⟩, .id ⟨congrArg (int .i64) wi, trivial⟩ rfl trivial rfl⟩
      · exact ⟨i + 1, ⟨⟨by omega, nxt f1 (by simp only [inF, decide_eq_false d1, Bool.false_and])⟩, by show l.length - (i + 1) < l.length - i; omega⟩, .id ⟨congrArg (int .i64) wi, trivial⟩ rfl trivial rfl⟩
  · have h' : i = l.length := by omega
    exact ⟨(0, false), by rw [e, List.drop_eq_nil_of_le (by omega)]; rfl, .id rfl ⟨.inl rfl, trivial⟩⟩
end Go.Sx.T1
namespace Go.Sx.T1
open Go.Proofs
def spA (l : List Pr) (j : Nat) : Int := if j % 2 = 0 then (l.getD (j / 2) .z).f else (l.getD (j / 2) .z).s
def spN (l : List Pr) (j : Nat) : Int := (l.getD (j / 2) .z).c
def spC (l : List Pr) (j : Nat) : List C := [.v (.int .i64 (spA l j)), .v (.int .i64 (spN l j))]
def sps (l : List Pr) (wr : Bool) : Option Blk := some ⟨.rows 2 (2 * l.length) (spC l), wr⟩
theorem sp_cat (l : List Pr) (i j : Nat) (hj : j < 2 * (i + 1)) :
    (if j < 2 * i then spC l (0 + j) else (([.v (.int .i64 (l.getD (0 + i) .z).f), .v (.int .i64 (l.getD (0 + i) .z).c), .v (.int .i64 (l.getD (0 + i) .z).s), .v (.int .i64 (l.getD (0 + i) .z).c)] : List C).drop ((0 + (j - 2 * i)) * 2)).take 2) = spC l j := by
  by_cases h : j < 2 * i
  · rw [if_pos h, Nat.zero_add]
  · rw [if_neg h]
    obtain rfl | rfl : j = 2 * i ∨ j = 2 * i + 1 := by omega
    · rw [Nat.sub_self, Nat.zero_add]
      simp [spC, spA, spN]
    · rw [show 2 * i + 1 - 2 * i = 1 by omega, Nat.zero_add]
      have h1 : (2 * i + 1) / 2 = i := by omega
      have h2 : (2 * i + 1) % 2 = 1 := by omega
      simp [spC, spA, spN, h1, h2]
set_option maxHeartbeats 3200000 in
set_option maxRecDepth 10000 in
theorem spans_fc (l : List Pr) (hl : l.length ≤ 1000) : FC Try.prog 28 [.o (.c (.s 0 0 l.length 3))] [prs l false] (.o (.c (.s 1 0 (2 * l.length) 2))) [prs l false, sps l true] := by
  refine FC.one (FC.rj mix Try.func28 ?_)
  refine ALoop.goN (X := Nat) (fun i => i ≤ l.length) (fun i => l.length - i) [6, 7] [0] (fun i => [(3, .o (.c (.s 1 0 (2 * i) 2))), (8, int .i64 i)])
    (fun i => [(1, ⟨.rows 2 (2 * i) (spC l), true⟩)]) 0 2 (Nat.zero_le _) (isAt.go [(1, .new 2)] ⟨rfl, rfl, trivial⟩ ⟨⟨.inr ⟨rfl, Nat.le_of_ble_eq_true rfl, fun _ h => absurd h (Nat.not_lt_zero _)⟩, rfl⟩, trivial⟩) ?_
  intro i hi
  dsimp only [headF, headM]
  refine bselD (fun h => ?_) (fun h => ?_)
  · have h' : i < l.length := by omega
    have wi : IntKind.i64.wrap ((i : Int) + 1) = ((i + 1 : Nat) : Int) := wrap64_in (by omega) (by omega)
    repeat refine AJoin.plain ?_
    refine And.intro ⟨by omega, by omega⟩ ?_
    refine And.intro (by show 0 + i < l.length; omega) ?_
    repeat (first | refine And.intro (by kernel_rfl) ?_ | refine And.intro (by decide) ?_)
    refine And.intro ⟨by show 0 + 2 * i ≤ 2 * i; omega, fun _ _ => rfl⟩ ?_
    refine And.intro ⟨Nat.le_of_ble_eq_true rfl, fun q hq => by have hq' : q < 2 := hq; rcases (show q = 0 ∨ q = 1 by omega) with rfl | rfl <;> rfl⟩ ?_
    refine And.intro (by show 2 * i + 2 ≤ 4294967296; omega) ?_
    repeat (first | refine And.intro (by kernel_rfl) ?_ | refine And.intro (by decide) ?_)
    refine ⟨i + 1, ⟨by omega, by show l.length - (i + 1) < l.length - i; omega⟩, isAt.go [(1, .to 4)] ⟨rfl, congrArg (int .i64) wi, trivial⟩ ⟨leB.rows (Nat.le_refl _) (fun j hj => ?_) id, trivial⟩⟩
    exact (sp_cat l i j hj).trans (by simp [spC, exC])
  · have h' : i = l.length := by omega
    subst h'
    exact ⟨(), trivial, .id rfl ⟨.inl rfl, .inl rfl, trivial⟩⟩
set_option maxHeartbeats 3200000 in
set_option maxRecDepth 10000 in
theorem ranges_fc (l : List Pr) (hl : l.length ≤ 1000) : FC Try.prog 29 [.o (.c (.s 0 0 l.length 3))] [prs l false] (.o (.c (.s 1 0 (2 * l.length) 2))) [prs l false, sps l true] := by
  refine FC.one (FC.rj mix Try.func29 ?_)
  refine ALoop.goN (X := Nat) (fun i => i ≤ l.length) (fun i => l.length - i) [6, 7] [0] (fun i => [(3, .o (.c (.s 1 0 (2 * i) 2))), (8, int .i64 i)])
    (fun i => [(1, ⟨.rows 2 (2 * i) (spC l), true⟩)]) 0 2 (Nat.zero_le _) (isAt.go [(1, .new 2)] ⟨rfl, rfl, trivial⟩ ⟨⟨.inr ⟨rfl, Nat.le_of_ble_eq_true rfl, fun _ h => absurd h (Nat.not_lt_zero _)⟩, rfl⟩, trivial⟩) ?_
  intro i hi
  dsimp only [headF, headM]
  refine bselD (fun h => ?_) (fun h => ?_)
  · have h' : i < l.length := by omega
    have wi : IntKind.i64.wrap ((i : Int) + 1) = ((i + 1 : Nat) : Int) := wrap64_in (by omega) (by omega)
    repeat refine AJoin.plain ?_
    refine And.intro ⟨by omega, by omega⟩ ?_
    refine And.intro (by show 0 + i < l.length; omega) ?_
    repeat (first | refine And.intro (by kernel_rfl) ?_ | refine And.intro (by decide) ?_)
    refine And.intro ⟨by show 0 + 2 * i ≤ 2 * i; omega, fun _ _ => rfl⟩ ?_
    refine And.intro ⟨Nat.le_of_ble_eq_true rfl, fun q hq => by have hq' : q < 2 := hq; rcases (show q = 0 ∨ q = 1 by omega) with rfl | rfl <;> rfl⟩ ?_
    refine And.intro (by show 2 * i + 2 ≤ 4294967296; omega) ?_
    repeat (first | refine And.intro (by kernel_rfl) ?_ | refine And.intro (by decide) ?_)
    refine ⟨i + 1, ⟨by omega, by show l.length - (i + 1) < l.length - i; omega⟩, isAt.go [(1, .to 4)] ⟨rfl, congrArg (int .i64) wi, trivial⟩ ⟨leB.rows (Nat.le_refl _) (fun j hj => ?_) id, trivial⟩⟩
    exact (sp_cat l i j hj).trans (by simp [spC, exC])
  · have h' : i = l.length := by omega
    subst h'
    exact ⟨(), trivial, .id rfl ⟨.inl rfl, .inl rfl, trivial⟩⟩
def subM (c : Int) : Int := IntKind.i64.wrap (1048576 - c)
def okP (p : Pr) : Prop := ¬ p.c < 1 ∧ ¬ p.f < 0 ∧ ¬ p.f > subM p.c ∧ ¬ p.s < 0 ∧ ¬ p.s > subM p.c
def okS (l : List Pr) (j : Nat) : Prop := ¬ spN l j < 1 ∧ ¬ spN l j > 1048576 ∧ ¬ spA l j < 0 ∧ ¬ spA l j > subM (spN l j)
def ov (l : List Pr) (j k : Nat) : Prop := spA l j < IntKind.i64.wrap (spA l k + spN l k) ∧ spA l k < IntKind.i64.wrap (spA l j + spN l j)
structure Vld (l : List Pr) : Prop where
  len : l.length ≤ 8
  ok : ∀ i, i < l.length → okP (l.getD i .z)
  ap : ∀ j, j < 2 * l.length → ∀ k, k < j → ¬ ov l j k
def InI (l : List Pr) : Prop := ∀ i, (l.getD i .z).c ≤ 9223372036854775807
theorem okS_iff {l : List Pr} (hI : InI l) : (∀ i, i < l.length → okP (l.getD i .z)) ↔ ∀ j, j < 2 * l.length → okS l j := by
  have sub : ∀ i, ¬ (l.getD i .z).c < 1 → subM (l.getD i .z).c = 1048576 - (l.getD i .z).c := fun i h => wrap64_in (by have := hI i; omega) (by have := hI i; omega)
  constructor
  · intro h j hj
    obtain ⟨a, b, c, d, e⟩ := h (j / 2) (by omega)
    have hs := sub _ a
    unfold okS spA spN
    refine ⟨a, by omega, ?_, ?_⟩
    · split
      · exact b
      · exact d
    · split
      · exact c
      · exact e
  · intro h i hi
    obtain ⟨a, b, c, d⟩ := h (2 * i) (by omega)
    obtain ⟨_, _, c', d'⟩ := h (2 * i + 1) (by omega)
    have h1 : (2 * i) / 2 = i := by omega
    have h2 : (2 * i + 1) / 2 = i := by omega
    have h3 : (2 * i) % 2 = 0 := by omega
    have h4 : ¬ (2 * i + 1) % 2 = 0 := by omega
    simp only [spA, spN, h1, h2, h3, h4, if_true, if_false] at a b c d c' d'
    exact ⟨a, c, d, c', d'⟩
set_option maxHeartbeats 3200000 in
set_option maxRecDepth 10000 in
theorem valid_fc (l : List Pr) (hl : l.length ≤ 1000) : ∃ b : Bool, FC Try.prog 18 [.o (.c (.s 0 0 l.length 3))] [prs l false] (boo b) [prs l false] ∧ (b = true ↔ Vld l) := by
  refine FC.rj mix Try.func18 ?_
  refine bselD (fun h => ?_) (fun h8 => ?_)
  · exact ⟨false, by constructor; (intro h; cases h); (intro v; exfalso; have := v.len; omega), .id rfl ⟨.inl rfl, trivial⟩⟩
  have h8' : l.length ≤ 8 := by omega
  repeat refine AJoin.plain ?_
  refine ALoop.go (X := Nat) (fun i => i ≤ l.length ∧ ∀ q, q < i → okP (l.getD q .z)) (fun i => l.length - i) [0, 14, 15] [0] (fun i => [(16, int .i64 i)])
    (fun _ => []) 0 ⟨Nat.zero_le _, fun q hq => absurd hq (Nat.not_lt_zero _)⟩ ⟨rfl, trivial⟩ trivial ?_
  rintro i ⟨hi, ho⟩
  dsimp only [headF, headM]
  refine bselD (fun h => ?_) (fun h => ?_)
  · have h' : i < l.length := by omega
    have wi : IntKind.i64.wrap ((i : Int) + 1) = ((i + 1 : Nat) : Int) := wrap64_in (by omega) (by omega)
    have bad : (okP (l.getD i .z) → False) → (false = true ↔ Vld l) := fun hb => ⟨fun h => (by cases h), fun v => (hb (v.ok i h')).elim⟩
    repeat refine AJoin.plain ?_
    refine And.intro ⟨by omega, by omega⟩ ?_
    refine And.intro (by show 0 + i < l.length; omega) ?_
    repeat refine AJoin.plain ?_
    conv => whnf
    rw [Nat.zero_add]
    refine bselD (fun c1 => ?_) (fun c1 => ?_)
    · exact ⟨false, bad fun o => o.1 c1, .id rfl ⟨.inl rfl, trivial⟩⟩
    refine bselD (fun c2 => ?_) (fun c2 => ?_)
    · exact ⟨false, bad fun o => o.2.1 c2, .id rfl ⟨.inl rfl, trivial⟩⟩
    refine bselD (fun c3 => ?_) (fun c3 => ?_)
    · exact ⟨false, bad fun o => o.2.2.1 c3, .id rfl ⟨.inl rfl, trivial⟩⟩
    refine bselD (fun c4 => ?_) (fun c4 => ?_)
    · exact ⟨false, bad fun o => o.2.2.2.1 c4, .id rfl ⟨.inl rfl, trivial⟩⟩
    refine bselD (fun c5 => ?_) (fun c5 => ?_)
    · exact ⟨false, bad fun o => o.2.2.2.2 c5, .id rfl ⟨.inl rfl, trivial⟩⟩
    refine ⟨i + 1, ⟨⟨by omega, fun q hq => ?_⟩, by show l.length - (i + 1) < l.length - i; omega⟩, .id ⟨congrArg (int .i64) wi, trivial⟩ rfl trivial rfl⟩
    rcases Nat.lt_or_ge q i with hq' | hq'
    · exact ho q hq'
    · obtain rfl : q = i := by omega
      exact ⟨c1, c2, c3, c4, c5⟩
  · have hall : ∀ q, q < l.length → okP (l.getD q .z) := fun q hq => ho q (by omega)
    refine FC.u (spans_fc l hl) [0] ?_
    repeat refine AJoin.plain ?_
    refine ALoop.go (X := Nat) (fun j => j ≤ 2 * l.length ∧ ∀ q, q < j → ∀ k, k < q → ¬ ov l q k) (fun j => 2 * l.length - j) [6, 51, 52] [0, 1] (fun j => [(53, int .i64 j)])
      (fun _ => []) 0 ⟨Nat.zero_le _, fun q hq => absurd hq (Nat.not_lt_zero _)⟩ ⟨rfl, trivial⟩ trivial ?_
    rintro j ⟨hj, ha⟩
    dsimp only [headF, headM]
    refine bselD (fun h => ?_) (fun h => ?_)
    · have h' : j < 2 * l.length := by omega
      have wj : IntKind.i64.wrap ((j : Int) + 1) = ((j + 1 : Nat) : Int) := wrap64_in (by omega) (by omega)
      repeat refine AJoin.plain ?_
      refine And.intro ⟨by omega, by omega⟩ ?_
      refine And.intro (by show 0 + j < 2 * l.length; omega) ?_
      refine And.intro ⟨by omega, by omega⟩ ?_
      refine ALoop.go (X := Nat) (fun k => k ≤ j ∧ ∀ q, q < k → ¬ ov l j q) (fun k => j - k) [6, 8, 51, 52, 53, 60, 61] [0, 1, 2] (fun k => [(62, int .i64 k)])
        (fun _ => []) 0 ⟨Nat.zero_le _, fun q hq => absurd hq (Nat.not_lt_zero _)⟩ ⟨rfl, trivial⟩ trivial ?_
      rintro k ⟨hk, hb⟩
      dsimp only [headF, headM]
      refine bselD (fun h2 => ?_) (fun h2 => ?_)
      · have h2' : k < j := by omega
        have wk : IntKind.i64.wrap ((k : Int) + 1) = ((k + 1 : Nat) : Int) := wrap64_in (by omega) (by omega)
        have next : ¬ ov l j k → ∀ q, q < k + 1 → ¬ ov l j q := fun hn q hq => by
          rcases Nat.lt_or_ge q k with hq' | hq'
          · exact hb q hq'
          · obtain rfl : q = k := by omega
            exact hn
        repeat refine AJoin.plain ?_
        refine And.intro ⟨by omega, by omega⟩ ?_
        refine And.intro (by show 0 + k < 2 * l.length; omega) ?_
        repeat (first | refine And.intro (by kernel_rfl) ?_ | refine And.intro (by decide) ?_)
        conv => whnf
        rw [Nat.zero_add, Nat.zero_add]
        refine bselD (fun c1 => ?_) (fun c1 => ?_)
        · repeat (first | refine And.intro (by kernel_rfl) ?_ | refine And.intro (by decide) ?_)
          refine bselD (fun c2 => ?_) (fun c2 => ?_)
          · exact ⟨false, ⟨fun h => (by cases h), fun v => (v.ap j h' k h2' ⟨c1, c2⟩).elim⟩, .id rfl ⟨.inl rfl, trivial⟩⟩
          · exact ⟨k + 1, ⟨⟨by omega, next fun o => c2 o.2⟩, by show j - (k + 1) < j - k; omega⟩, .id ⟨congrArg (int .i64) wk, trivial⟩ rfl trivial rfl⟩
        · exact ⟨k + 1, ⟨⟨by omega, next fun o => c1 o.1⟩, by show j - (k + 1) < j - k; omega⟩, .id ⟨congrArg (int .i64) wk, trivial⟩ rfl trivial rfl⟩
      · have hkj : k = j := by omega
        subst hkj
        refine ⟨k + 1, ⟨⟨by omega, fun q hq => ?_⟩, by show 2 * l.length - (k + 1) < 2 * l.length - k; omega⟩, .id ⟨congrArg (int .i64) wj, trivial⟩ rfl trivial rfl⟩
        rcases Nat.lt_or_ge q k with hq' | hq'
        · exact ha q hq'
        · obtain rfl : q = k := by omega
          exact hb
    · have hj' : j = 2 * l.length := by omega
      subst hj'
      exact ⟨true, ⟨fun _ => ⟨h8', hall, ha⟩, fun _ => rfl⟩, .id rfl ⟨.inl rfl, trivial⟩⟩
end Go.Sx.T1
namespace Go.Sx.T1
open Go.Proofs
set_option maxHeartbeats 3200000 in
set_option maxRecDepth 10000 in
theorem validR_fc (l : List Pr) (hl : l.length ≤ 1000) (hI : InI l) : ∃ b : Bool, FC Try.prog 19 [.o (.c (.s 0 0 l.length 3))] [prs l false] (boo b) [prs l false] ∧ (b = true ↔ Vld l) := by
  refine FC.rj mix Try.func19 ?_
  refine FC.u (ranges_fc l hl) [0] ?_
  repeat refine AJoin.plain ?_
  refine ALoop.go (X := Nat) (fun j => j ≤ 2 * l.length ∧ ∀ q, q < j → okS l q ∧ ∀ k, k < q → ¬ ov l q k) (fun j => 2 * l.length - j) [0, 3, 10, 11] [0, 1] (fun j => [(12, int .i64 j)])
    (fun _ => []) 0 ⟨Nat.zero_le _, fun q hq => absurd hq (Nat.not_lt_zero _)⟩ ⟨rfl, trivial⟩ trivial ?_
  rintro j ⟨hj, ha⟩
  dsimp only [headF, headM]
  refine bselD (fun h => ?_) (fun h => ?_)
  · have h' : j < 2 * l.length := by omega
    have wj : IntKind.i64.wrap ((j : Int) + 1) = ((j + 1 : Nat) : Int) := wrap64_in (by omega) (by omega)
    have ez : 0 + (j : Int).toNat = j := by omega
    have bad : (okS l j → False) → (false = true ↔ Vld l) := fun hb => ⟨fun h => (by cases h), fun v => (hb ((okS_iff hI).1 v.ok j h')).elim⟩
    repeat refine AJoin.plain ?_
    refine And.intro ⟨by omega, by omega⟩ ?_
    refine And.intro (by show 0 + j < 2 * l.length; omega) ?_
    repeat refine AJoin.plain ?_
    repeat (first | refine And.intro (by kernel_rfl) ?_ | refine And.intro (by decide) ?_)
    refine bselD (fun c1 => ?_) (fun c1 => ?_)
    · exact ⟨false, bad fun o => o.1 (by rw [← ez]; exact c1), .id rfl ⟨.inl rfl, trivial⟩⟩
    repeat (first | refine And.intro (by kernel_rfl) ?_ | refine And.intro (by decide) ?_)
    refine bselD (fun c2 => ?_) (fun c2 => ?_)
    · exact ⟨false, bad fun o => o.2.1 (by rw [← ez]; exact c2), .id rfl ⟨.inl rfl, trivial⟩⟩
    repeat (first | refine And.intro (by kernel_rfl) ?_ | refine And.intro (by decide) ?_)
    refine bselD (fun c3 => ?_) (fun c3 => ?_)
    · exact ⟨false, bad fun o => o.2.2.1 (by rw [← ez]; exact c3), .id rfl ⟨.inl rfl, trivial⟩⟩
    repeat (first | refine And.intro (by kernel_rfl) ?_ | refine And.intro (by decide) ?_)
    refine bselD (fun c4 => ?_) (fun c4 => ?_)
    · exact ⟨false, bad fun o => o.2.2.2 (by rw [← ez]; exact c4), .id rfl ⟨.inl rfl, trivial⟩⟩
    repeat refine AJoin.plain ?_
    refine And.intro ⟨by omega, by omega⟩ ?_
    refine ALoop.go (X := Nat) (fun k => k ≤ j ∧ ∀ q, q < k → ¬ ov l j q) (fun k => j - k) [0, 3, 5, 10, 11, 12, 40, 41] [0, 1, 2] (fun k => [(42, int .i64 k)])
      (fun _ => []) 0 ⟨Nat.zero_le _, fun q hq => absurd hq (Nat.not_lt_zero _)⟩ ⟨rfl, trivial⟩ trivial ?_
    rintro k ⟨hk, hb⟩
    dsimp only [headF, headM]
    refine bselD (fun h2 => ?_) (fun h2 => ?_)
    · have h2' : k < j := by omega
      have wk : IntKind.i64.wrap ((k : Int) + 1) = ((k + 1 : Nat) : Int) := wrap64_in (by omega) (by omega)
      have next : ¬ ov l j k → ∀ q, q < k + 1 → ¬ ov l j q := fun hn q hq => by
        rcases Nat.lt_or_ge q k with hq' | hq'
        · exact hb q hq'
        · obtain rfl : q = k := by omega
          exact hn
      repeat refine AJoin.plain ?_
      refine And.intro ⟨by omega, by omega⟩ ?_
      refine And.intro (by show 0 + k < 2 * l.length; omega) ?_
      repeat (first | refine And.intro (by kernel_rfl) ?_ | refine And.intro (by decide) ?_)
      conv => whnf
      rw [Nat.zero_add, Nat.zero_add]
      refine bselD (fun c1 => ?_) (fun c1 => ?_)
      · repeat (first | refine And.intro (by kernel_rfl) ?_ | refine And.intro (by decide) ?_)
        refine bselD (fun c2 => ?_) (fun c2 => ?_)
        · exact ⟨false, ⟨fun h => (by cases h), fun v => (v.ap j h' k h2' ⟨c1, c2⟩).elim⟩, .id rfl ⟨.inl rfl, trivial⟩⟩
        · exact ⟨k + 1, ⟨⟨by omega, next fun o => c2 o.2⟩, by show j - (k + 1) < j - k; omega⟩, .id ⟨congrArg (int .i64) wk, trivial⟩ rfl trivial rfl⟩
      · exact ⟨k + 1, ⟨⟨by omega, next fun o => c1 o.1⟩, by show j - (k + 1) < j - k; omega⟩, .id ⟨congrArg (int .i64) wk, trivial⟩ rfl trivial rfl⟩
    · have hkj : k = j := by omega
      subst hkj
      refine ⟨k + 1, ⟨⟨by omega, fun q hq => ?_⟩, by show 2 * l.length - (k + 1) < 2 * l.length - k; omega⟩, .id ⟨congrArg (int .i64) wj, trivial⟩ rfl trivial rfl⟩
      rcases Nat.lt_or_ge q k with hq' | hq'
      · exact ha q hq'
      · obtain rfl : q = k := by omega
        rw [ez] at c1 c2 c3 c4
        exact ⟨⟨c1, c2, c3, c4⟩, hb⟩
  · have hj' : j = 2 * l.length := by omega
    subst hj'
    have hall := (okS_iff hI).2 fun q hq => (ha q hq).1
    refine ⟨decide ((l.length : Int) ≤ 8), ?_, .id rfl ⟨.inl rfl, trivial⟩⟩
    show decide ((l.length : Int) ≤ 8) = true ↔ Vld l
    rw [decide_eq_true_iff]
    exact ⟨fun h8 => ⟨by omega, hall, fun q hq => (ha q hq).2⟩, fun v => by have := v.len; omega⟩
end Go.Sx.T1
namespace Go.Sx.T1
open Go.Proofs
theorem okN (r : RD) (h1 : r.W.length ≤ 5) (h2 : r.C.length ≤ 5) : r.ok := ⟨by omega, by omega⟩
theorem join0 : FC Try.prog 11 [.o (rd0 ⟨2, [], []⟩ 0 1), .o (rd0 ⟨0, [7], []⟩ 2 3)] [u8s [] false, i64s [] false, u8s [7] false, i64s [] false] (joinS (⟨1, [7], []⟩, 1)) (joinM ⟨2, [], []⟩ ⟨0, [7], []⟩ (⟨1, [7], []⟩, 1)) := by
  obtain ⟨p, h, e⟩ := join_fc ⟨2, [], []⟩ ⟨0, [7], []⟩ (okN _ (by decide) (by decide)) (okN _ (by decide) (by decide))
  have : p = (⟨1, [7], []⟩, 1) := e
  subst this
  exact h
theorem rep0 : FC Try.prog 13 [.o (rd0 ⟨2, [], []⟩ 0 1), .o (rd0 ⟨0, [], []⟩ 2 3)] [u8s [] false, i64s [] false, u8s [] false, i64s [] false] (repS (true, false)) [u8s [] false, i64s [] false, u8s [] false, i64s [] false] := by
  obtain ⟨p, h, e⟩ := repair_fc ⟨2, [], []⟩ ⟨0, [], []⟩
  have : p = (true, false) := e
  subst this
  exact h
theorem oth0 : FC Try.prog 20 [.o (.c (.s 0 0 1 3)), int .i64 9] [prs [⟨4, 8, 2⟩] false] (othS (5, true)) [prs [⟨4, 8, 2⟩] false] := by
  obtain ⟨p, h, e⟩ := other_fc [⟨4, 8, 2⟩] 9 (by decide)
  have : p = (5, true) := e.trans (by decide +kernel)
  subst this
  exact h
set_option maxHeartbeats 3200000 in
set_option maxRecDepth 10000 in
theorem awake_fc : FC Try.prog 8 [] [] (boo true) [] := by
  refine FC.one (FC.r mix Try.func8 ?_)
  refine acall.nilAt 0 1 1 (.ints .u8 []) (acall.nilAt 0 2 1 (.ints .i64 []) (acall.nilAt 1 2 1 (.ints .i64 []) (FC.u join0 [1, 2, 0, 3] ?_)))
  refine acall.nilAt 0 1 1 (.ints .u8 []) (acall.nilAt 0 2 1 (.ints .i64 []) (acall.nilAt 1 1 1 (.ints .u8 []) (acall.nilAt 1 2 1 (.ints .i64 []) (FC.u rep0 [7, 8, 9, 10] ?_))))
  refine FC.u oth0 [11] ?_ (hrd := ?_)
  · repeat (first | refine And.intro (by kernel_rfl) ?_ | refine And.intro (by decide) ?_)
    exact ⟨(), trivial, .id rfl trivial⟩
  · refine ⟨.inr (.inr (leB.rows (Nat.le_refl _) (fun i hi => ?_) (fun h => by cases h))), trivial⟩
    have hi' : i < 1 := hi
    obtain rfl : i = 0 := by omega
    rfl
end Go.Sx.T1
namespace Go.Sx.T1
open Go.Proofs
/-- numbers that are small -/
structure Sm (A B : Int) (p : Pr) : Prop where
  f : 0 ≤ p.f ∧ p.f ≤ B
  s : -A ≤ p.s ∧ p.s ≤ B
  c : 1 ≤ p.c ∧ p.c ≤ 4
  fc : p.f + p.c ≤ B
  sc : p.s + p.c ≤ B
structure PW where
  i : Nat
  k : Nat
  at' : Int
  l : List Pr
structure PI (n : Nat) (x : PW) : Prop where
  i : x.i + x.l.length = n
  at0 : 0 ≤ x.at' ∧ x.at' ≤ 12 * x.l.length
  sm : ∀ p ∈ x.l, Sm 0 36 p
def prM (ts : List Int) (x : List Pr × Nat) : Mem := [diceB ts x.2, diceL ts, prs x.1 true]
theorem row1 {p : Pr} (l : List Pr) (j : Nat) (hj : j < l.length + 1) :
    (if j < l.length then prC (l.getD (0 + j) .z) else ((prC p).drop ((0 + (j - l.length)) * 3)).take 3) = prC ((l ++ [p]).getD j .z) := by
  by_cases h : j < l.length
  · rw [if_pos h, Nat.zero_add]
    simp [List.getD, List.getElem?_append_left h]
  · rw [if_neg h]
    obtain rfl : j = l.length := by omega
    rw [Nat.sub_self]
    simp [prC, List.getD]
set_option maxHeartbeats 3200000 in
set_option maxRecDepth 10000 in
theorem pairs_fc (ts : List Int) (hl : ts.length ≤ 400) : ∃ x : List Pr × Nat, FC Try.prog 16 [.o (.c (.p 0 0 0))] [diceB ts 0, diceL ts] (.o (.c (.s 2 0 x.1.length 3))) (prM ts x) ∧ x.1.length ≤ 3 ∧ ∀ p ∈ x.1, Sm 3 40 p := by
  refine FC.rj mix Try.func16 ?_
  have h4 := dv_bd ts 0 (n := 4) (by omega)
  refine FC.x (next_x ts 0 4 (by omega) hl) [0, 1] (fun n en => ?_)
  rw [← en] at h4
  clear en
  obtain ⟨n, rfl⟩ : ∃ m : Nat, n = m := ⟨n.toNat, by omega⟩
  repeat refine AJoin.plain ?_
  refine ALoop.goN (X := PW) (PI n) (fun x => x.i) [0] [1] (fun x => [(3, .o (.c (.s 2 0 x.l.length 3))), (4, int .i64 x.at'), (5, int .i64 x.i)])
    (fun x => [(0, ⟨.box [.s 1 0 ts.length 1, .v (.int .i64 (min x.k ts.length : Nat))], true⟩), (2, ⟨.rows 3 x.l.length (fun i => prC (x.l.getD i .z)), true⟩)]) ⟨n, 1, 0, []⟩ 3
    ⟨rfl, ⟨Int.le_refl _, Int.le_refl _⟩, fun p hp => by cases hp⟩ (isAt.go [(2, .new 3)] ⟨rfl, rfl, rfl, trivial⟩ ⟨.inl rfl, ⟨.inr ⟨rfl, Nat.le_of_ble_eq_true rfl, fun _ h => absurd h (Nat.not_lt_zero _)⟩, rfl⟩, trivial⟩) ?_
  rintro ⟨i, k, at', l⟩ ⟨hi, ha, hs⟩
  simp only at hi ha hs
  dsimp only [headF, headM]
  refine bselD (fun hgt => ?_) (fun hle => ?_)
  · have hi0 : 0 < i := by have : (i : Int) > 0 := hgt; omega
    have hn : l.length ≤ 2 := by omega
    repeat refine AJoin.plain ?_
    have d1 := dv_bd ts k (n := 4) (by omega)
    refine FC.x (next_x ts k 4 (by omega) hl) [0, 1] (fun a ea => ?_)
    have d2 := dv_bd ts (k + 1) (n := 3) (by omega)
    refine FC.x (next_x ts (k + 1) 3 (by omega) hl) [0, 1] (fun b eb => ?_)
    have d3 := dv_bd ts (k + 1 + 1) (n := 3) (by omega)
    refine FC.x (next_x ts (k + 1 + 1) 3 (by omega) hl) [0, 1] (fun c ec => ?_)
    rw [← ea] at d1
    rw [← eb] at d2
    rw [← ec] at d3
    clear ea eb ec
    have eN : IntKind.i64.wrap (1 + a) = 1 + a := wrap64_in (by omega) (by omega)
    have eF : IntKind.i64.wrap (at' + b) = at' + b := wrap64_in (by omega) (by omega)
    have eS1 : IntKind.i64.wrap (at' + b + (1 + a)) = at' + b + (1 + a) := wrap64_in (by omega) (by omega)
    have eS : IntKind.i64.wrap (at' + b + (1 + a) + c) = at' + b + (1 + a) + c := wrap64_in (by omega) (by omega)
    have wi : IntKind.i64.wrap ((i : Int) - 1) = ((i - 1 : Nat) : Int) := by rw [wrap64_in (by omega) (by omega)]; omega
    repeat (first | refine And.intro (by kernel_rfl) ?_ | refine And.intro (by decide) ?_)
    repeat refine AJoin.plain ?_
    refine FC.x (next_x ts (k + 1 + 1 + 1) 3 (by omega) hl) [0, 1] (fun d ed => ?_)
    repeat refine AJoin.plain ?_
    conv => whnf
    rw [eF, eN, eS1, eS]
    refine bselE (fun hd => ?_) (fun hd => ?_)
    · repeat (first | refine And.intro (by kernel_rfl) ?_ | refine And.intro (by decide) ?_)
      refine And.intro ⟨by show 0 + l.length ≤ l.length; omega, fun _ _ => rfl⟩ ?_
      refine And.intro ⟨Nat.le_of_ble_eq_true rfl, fun q hq => by have hq' : q < 1 := hq; obtain rfl : q = 0 := (by omega); rfl⟩ ?_
      refine And.intro (by show l.length + 1 ≤ 4294967296; omega) ?_
      repeat (first | refine And.intro (by kernel_rfl) ?_ | refine And.intro (by decide) ?_)
      have eM : (if at' + b > at' + b + (1 + a) + c then at' + b else at' + b + (1 + a) + c) = at' + b + (1 + a) + c := by split <;> omega
      have eW : IntKind.i64.wrap ((if at' + b > at' + b + (1 + a) + c then at' + b else at' + b + (1 + a) + c) + (1 + a)) = at' + b + (1 + a) + c + (1 + a) := by rw [eM]; exact wrap64_in (by omega) (by omega)
      refine ⟨⟨i - 1, k + 1 + 1 + 1 + 1, at' + b + (1 + a) + c + (1 + a), l ++ [⟨at' + b + (1 + a) + c, at' + b, 1 + a⟩]⟩, ⟨⟨by simp; omega, by simp; omega, ?_⟩, by show i - 1 < i; omega⟩, isAt.go [(2, .to 5)] ⟨congrArg (fun n => SV.o (.c (.s 5 0 n 3))) (show l.length + 1 = (l ++ [(⟨at' + b + (1 + a) + c, at' + b, 1 + a⟩ : Pr)]).length by simp), congrArg (int .i64) eW, congrArg (int .i64) wi, trivial⟩ ⟨.inl rfl, leB.rows (by simp) (fun j hj => ?_) id, trivial⟩⟩
      · intro p hp
        simp only [List.mem_append, List.mem_singleton] at hp
        rcases hp with hp | rfl
        · exact hs p hp
        · exact ⟨by simp only; omega, by simp only; omega, by simp only; omega, by simp only; omega, by simp only; omega⟩
      · have hj' : j < (l ++ [(⟨at' + b + (1 + a) + c, at' + b, 1 + a⟩ : Pr)]).length := hj
        exact row1 (p := ⟨at' + b + (1 + a) + c, at' + b, 1 + a⟩) l j (by simpa using hj')
    · repeat (first | refine And.intro (by kernel_rfl) ?_ | refine And.intro (by decide) ?_)
      refine And.intro ⟨by show 0 + l.length ≤ l.length; omega, fun _ _ => rfl⟩ ?_
      refine And.intro ⟨Nat.le_of_ble_eq_true rfl, fun q hq => by have hq' : q < 1 := hq; obtain rfl : q = 0 := (by omega); rfl⟩ ?_
      refine And.intro (by show l.length + 1 ≤ 4294967296; omega) ?_
      repeat (first | refine And.intro (by kernel_rfl) ?_ | refine And.intro (by decide) ?_)
      have eM : (if at' + b + (1 + a) + c > at' + b then at' + b + (1 + a) + c else at' + b) = at' + b + (1 + a) + c := by split <;> omega
      have eW : IntKind.i64.wrap ((if at' + b + (1 + a) + c > at' + b then at' + b + (1 + a) + c else at' + b) + (1 + a)) = at' + b + (1 + a) + c + (1 + a) := by rw [eM]; exact wrap64_in (by omega) (by omega)
      refine ⟨⟨i - 1, k + 1 + 1 + 1 + 1, at' + b + (1 + a) + c + (1 + a), l ++ [⟨at' + b, at' + b + (1 + a) + c, 1 + a⟩]⟩, ⟨⟨by simp; omega, by simp; omega, ?_⟩, by show i - 1 < i; omega⟩, isAt.go [(2, .to 5)] ⟨congrArg (fun n => SV.o (.c (.s 5 0 n 3))) (show l.length + 1 = (l ++ [(⟨at' + b, at' + b + (1 + a) + c, 1 + a⟩ : Pr)]).length by simp), congrArg (int .i64) eW, congrArg (int .i64) wi, trivial⟩ ⟨.inl rfl, leB.rows (by simp) (fun j hj => ?_) id, trivial⟩⟩
      · intro p hp
        simp only [List.mem_append, List.mem_singleton] at hp
        rcases hp with hp | rfl
        · exact hs p hp
        · exact ⟨by simp only; omega, by simp only; omega, by simp only; omega, by simp only; omega, by simp only; omega⟩
      · have hj' : j < (l ++ [(⟨at' + b, at' + b + (1 + a) + c, 1 + a⟩ : Pr)]).length := hj
        exact row1 (p := ⟨at' + b, at' + b + (1 + a) + c, 1 + a⟩) l j (by simpa using hj')
  · have hi0 : i = 0 := by have : ¬ (i : Int) > 0 := hle; omega
    have l3 : l.length ≤ 3 := by omega
    have s40 : ∀ p ∈ l, Sm 3 40 p := fun p hp => by
      obtain ⟨a, b, c, d, e⟩ := hs p hp
      exact ⟨by omega, by omega, c, by omega, by omega⟩
    repeat refine AJoin.plain ?_
    refine bselD (fun hgt => ?_) (fun hle => ?_)
    · refine FC.x (next_x ts k 6 (by omega) hl) [0, 1] (fun d ed => ?_)
      repeat refine AJoin.plain ?_
      refine bselE (fun hd => ?_) (fun hd => ?_)
      · cases l with
        | nil => exact absurd hgt (by simp)
        | cons p r =>
          have hp := hs p (by simp)
          have d7 := dv_bd ts (k + 1) (n := 7) (by omega)
          refine And.intro ⟨Int.le_refl 0, hgt⟩ ?_
          refine And.intro (by show 0 + 0 < (p :: r).length; simp) ?_
          refine FC.x (next_x ts (k + 1) 7 (by omega) hl) [0, 1] (fun e ee => ?_)
          rw [← ee] at d7
          clear ee
          refine And.intro ⟨Int.le_refl 0, hgt⟩ ?_
          refine And.intro (by show 0 + 0 < (p :: r).length; simp) ?_
          repeat (first | refine And.intro (by kernel_rfl) ?_ | refine And.intro (by decide) ?_)
          have e3 : IntKind.i64.wrap (e - 3) = e - 3 := wrap64_in (by omega) (by omega)
          have eS : IntKind.i64.wrap (p.s + IntKind.i64.wrap (e - 3)) = p.s + (e - 3) := by
            rw [e3]
            exact wrap64_in (by have := hp.s; omega) (by have := hp.s; omega)
          refine ⟨(⟨p.f, p.s + (e - 3), p.c⟩ :: r, k + 1 + 1), ⟨by simpa using l3, fun q hq => ?_⟩, .id rfl ⟨.inl rfl, .inl rfl, leB.rows (Nat.le_refl _) (fun q hq => ?_) id, trivial⟩⟩
          · simp only [List.mem_cons] at hq
            rcases hq with rfl | hq
            · obtain ⟨a1, a2, a3, a4, a5⟩ := hp
              exact ⟨by simp only; omega, by simp only; omega, by simp only; omega, by simp only; omega, by simp only; omega⟩
            · exact s40 q (by simp [hq])
          · show (if q = 0 + 0 then repl (prC p) 1 [.v (.int .i64 (IntKind.i64.wrap (p.s + IntKind.i64.wrap (e - 3))))] else prC ((p :: r).getD q .z)) = prC (((⟨p.f, p.s + (e - 3), p.c⟩ : Pr) :: r).getD q .z)
            rw [eS]
            cases q with
            | zero => rfl
            | succ q => simp
      · exact ⟨(l, k + 1), ⟨l3, s40⟩, .id rfl ⟨.inl rfl, .inl rfl, .inl rfl, trivial⟩⟩
    · exact ⟨(l, k), ⟨l3, s40⟩, .id rfl ⟨.inl rfl, .inl rfl, .inl rfl, trivial⟩⟩
end Go.Sx.T1
namespace Go.Sx.T1
open Go.Proofs
def inS (l : List Pr) (j : Nat) (a : Int) : Prop := spA l j ≤ a ∧ a < spA l j + spN l j
instance (l : List Pr) (j : Nat) (a : Int) : Decidable (inS l j a) := inferInstanceAs (Decidable (_ ∧ _))
structure VS (l : List Pr) : Prop where
  lo : ∀ j, j < 2 * l.length → 0 ≤ spA l j ∧ 1 ≤ spN l j ∧ spA l j + spN l j ≤ 40
  ap : ∀ j k, j < 2 * l.length → k < 2 * l.length → j ≠ k → ∀ a, inS l j a → inS l k a → False
theorem sp0 (l : List Pr) (i : Nat) : spA l (2 * i) = (l.getD i .z).f ∧ spA l (2 * i + 1) = (l.getD i .z).s ∧ spN l (2 * i) = (l.getD i .z).c ∧ spN l (2 * i + 1) = (l.getD i .z).c := by
  have h1 : (2 * i) / 2 = i := by omega
  have h2 : (2 * i + 1) / 2 = i := by omega
  have h3 : (2 * i) % 2 = 0 := by omega
  have h4 : ¬ (2 * i + 1) % 2 = 0 := by omega
  simp only [spA, spN, h1, h2, h3, h4, if_true, if_false, and_self]
theorem vs_of {l : List Pr} (hs : ∀ p ∈ l, Sm 3 40 p) (v : Vld l) : VS l := by
  have lo : ∀ j, j < 2 * l.length → 0 ≤ spA l j ∧ 1 ≤ spN l j ∧ spA l j + spN l j ≤ 40 := by
    intro j hj
    have hi : j / 2 < l.length := by omega
    have hm : l.getD (j / 2) .z ∈ l := by simp [List.getD, hi]
    obtain ⟨s1, s2, s3, s4, s5⟩ := hs _ hm
    obtain ⟨_, _, _, v4, _⟩ := v.ok _ hi
    unfold spA spN
    split
    · exact ⟨s1.1, s3.1, s4⟩
    · exact ⟨by omega, s3.1, s5⟩
  refine ⟨lo, ?_⟩
  have key : ∀ j k, j < 2 * l.length → k < j → ∀ a, inS l j a → inS l k a → False := by
    intro j k hj hk a ha hb
    have h1 := lo j hj
    have h2 := lo k (by omega)
    refine v.ap j hj k hk ⟨?_, ?_⟩
    · rw [wrap64_in (by omega) (by omega)]; have := ha.1; have := hb.2; omega
    · rw [wrap64_in (by omega) (by omega)]; have := ha.2; have := hb.1; omega
  intro j k hj hk hne a ha hb
  rcases Nat.lt_or_gt_of_ne hne with h | h
  · exact key k j hk h a hb ha
  · exact key j k hj h a ha hb
theorem inF_iff {l : List Pr} (v : VS l) {j : Nat} (hj : j < 2 * l.length) {a : Int} (ha : 0 ≤ a ∧ a < 100) : inF a (spA l j) (spN l j) = true ↔ inS l j a := by
  have := v.lo j hj
  unfold inF inS
  rw [Bool.and_eq_true, decide_eq_true_iff, decide_eq_true_iff, wrap64_in (by omega) (by omega)]
  omega
/-- what othF gives: the first pair that fits -/
theorem oth_spec (a : Int) : ∀ (l : List Pr), (∃ i, i < l.length ∧ (∀ i', i' < i → inF a (l.getD i' .z).f (l.getD i' .z).c = false ∧ inF a (l.getD i' .z).s (l.getD i' .z).c = false) ∧
      ((inF a (l.getD i .z).f (l.getD i .z).c = true ∧ othF a l = (movF a (l.getD i .z).f (l.getD i .z).s, true)) ∨
       (inF a (l.getD i .z).f (l.getD i .z).c = false ∧ inF a (l.getD i .z).s (l.getD i .z).c = true ∧ othF a l = (movF a (l.getD i .z).s (l.getD i .z).f, true)))) ∨
    ((∀ i, i < l.length → inF a (l.getD i .z).f (l.getD i .z).c = false ∧ inF a (l.getD i .z).s (l.getD i .z).c = false) ∧ othF a l = (0, false))
  | [] => .inr ⟨fun i h => absurd h (Nat.not_lt_zero _), rfl⟩
  | p :: l => by
    by_cases h1 : inF a p.f p.c = true
    · exact .inl ⟨0, by simp, fun i' h => absurd h (Nat.not_lt_zero _), .inl ⟨h1, by simp only [othF, h1, if_true]; rfl⟩⟩
    · simp only [Bool.not_eq_true] at h1
      by_cases h2 : inF a p.s p.c = true
      · exact .inl ⟨0, by simp, fun i' h => absurd h (Nat.not_lt_zero _), .inr ⟨h1, h2, by simp only [othF, h1, h2, Bool.false_eq_true, if_true, if_false]; rfl⟩⟩
      · simp only [Bool.not_eq_true] at h2
        have e : othF a (p :: l) = othF a l := by simp only [othF, h1, h2, Bool.false_eq_true, if_false]
        rw [e]
        rcases oth_spec a l with ⟨i, hi, hb, hr⟩ | ⟨hb, hr⟩
        · refine .inl ⟨i + 1, by simpa using hi, fun i' h => ?_, hr⟩
          cases i' with
          | zero => exact ⟨h1, h2⟩
          | succ i' => exact hb i' (by omega)
        · refine .inr ⟨fun i' h => ?_, hr⟩
          cases i' with
          | zero => exact ⟨h1, h2⟩
          | succ i' => exact hb i' (by simpa using h)
theorem oth_in {l : List Pr} (v : VS l) {a : Int} (ha : 0 ≤ a ∧ a < 100) {i : Nat} (hi : i < l.length) :
    (inS l (2 * i) a → othF a l = ((l.getD i .z).s + a - (l.getD i .z).f, true)) ∧ (inS l (2 * i + 1) a → othF a l = ((l.getD i .z).f + a - (l.getD i .z).s, true)) := by
  obtain ⟨p1, p2, p3, p4⟩ := sp0 l i
  have l1 := v.lo (2 * i) (by omega)
  have l2 := v.lo (2 * i + 1) (by omega)
  have conv : ∀ i', i' < l.length → (inF a (l.getD i' .z).f (l.getD i' .z).c = true ↔ inS l (2 * i') a) ∧ (inF a (l.getD i' .z).s (l.getD i' .z).c = true ↔ inS l (2 * i' + 1) a) := by
    intro i' hi'
    obtain ⟨q1, q2, q3, q4⟩ := sp0 l i'
    have a1 := inF_iff v (j := 2 * i') (by omega) ha
    have a2 := inF_iff v (j := 2 * i' + 1) (by omega) ha
    rw [q1, q3] at a1
    rw [q2, q4] at a2
    exact ⟨a1, a2⟩
  have mv : ∀ x y : Int, 0 ≤ x → x ≤ 40 → 0 ≤ y → y ≤ 40 → movF a x y = y + a - x := by
    intro x y h1 h2 h3 h4
    unfold movF
    rw [wrap64_in (n := y + a) (by omega) (by omega), wrap64_in (by omega) (by omega)]
  rw [p1, p3] at l1
  rw [p2, p4] at l2
  constructor
  · intro hin
    rcases oth_spec a l with ⟨i', hi', hb, hr⟩ | ⟨hb, hr⟩
    · have hii : i' = i := by
        rcases hr with ⟨h, _⟩ | ⟨_, h, _⟩
        · exact Decidable.byContradiction fun hne => v.ap (2 * i') (2 * i) (by omega) (by omega) (by omega) a ((conv i' hi').1.1 h) hin
        · exact (v.ap (2 * i' + 1) (2 * i) (by omega) (by omega) (by omega) a ((conv i' hi').2.1 h) hin).elim
      subst hii
      rcases hr with ⟨_, h⟩ | ⟨h, _, _⟩
      · rw [h, mv _ _ (by omega) (by omega) (by omega) (by omega)]
      · have := (conv i' hi').1.2 hin; rw [h] at this; cases this
    · have := (conv i hi).1.2 hin; rw [(hb i hi).1] at this; cases this
  · intro hin
    rcases oth_spec a l with ⟨i', hi', hb, hr⟩ | ⟨hb, hr⟩
    · have hii : i' = i := by
        rcases hr with ⟨h, _⟩ | ⟨_, h, _⟩
        · exact (v.ap (2 * i') (2 * i + 1) (by omega) (by omega) (by omega) a ((conv i' hi').1.1 h) hin).elim
        · exact Decidable.byContradiction fun hne => v.ap (2 * i' + 1) (2 * i + 1) (by omega) (by omega) (by omega) a ((conv i' hi').2.1 h) hin
      subst hii
      rcases hr with ⟨h, _⟩ | ⟨_, _, h⟩
      · exact (v.ap (2 * i') (2 * i' + 1) (by omega) (by omega) (by omega) a ((conv i' hi').1.1 h) hin).elim
      · rw [h, mv _ _ (by omega) (by omega) (by omega) (by omega)]
    · have := (conv i hi).2.2 hin; rw [(hb i hi).2] at this; cases this
theorem oth_ok {l : List Pr} (v : VS l) {a : Int} (ha : 0 ≤ a ∧ a < 100) : (othF a l).2 = true ↔ ∃ j, j < 2 * l.length ∧ inS l j a := by
  constructor
  · intro h
    rcases oth_spec a l with ⟨i, hi, hb, hr⟩ | ⟨hb, hr⟩
    · obtain ⟨q1, q2, q3, q4⟩ := sp0 l i
      have a1 := inF_iff v (j := 2 * i) (by omega) ha
      have a2 := inF_iff v (j := 2 * i + 1) (by omega) ha
      rw [q1, q3] at a1
      rw [q2, q4] at a2
      rcases hr with ⟨h, _⟩ | ⟨_, h, _⟩
      · exact ⟨2 * i, by omega, a1.1 h⟩
      · exact ⟨2 * i + 1, by omega, a2.1 h⟩
    · rw [hr] at h; cases h
  · rintro ⟨j, hj, hin⟩
    rcases Nat.mod_two_eq_zero_or_one j with h | h
    · have e : j = 2 * (j / 2) := by omega
      rw [e] at hin
      rw [(oth_in v ha (i := j / 2) (by omega)).1 hin]
    · have e : j = 2 * (j / 2) + 1 := by omega
      rw [e] at hin
      rw [(oth_in v ha (i := j / 2) (by omega)).2 hin]
/-- the other address of the other one -/
theorem oth_back {l : List Pr} (v : VS l) {a x : Int} (ha : 0 ≤ a ∧ a < 100) (h : othF a l = (x, true)) : othF x l = (a, true) ∧ x ≠ a := by
  obtain ⟨j, hj, hin⟩ := (oth_ok v ha).1 (by rw [h])
  obtain ⟨i, hi, hji⟩ : ∃ i, i < l.length ∧ (j = 2 * i ∨ j = 2 * i + 1) := ⟨j / 2, by omega, by omega⟩
  obtain ⟨p1, p2, p3, p4⟩ := sp0 l i
  have l1 := v.lo (2 * i) (by omega)
  have l2 := v.lo (2 * i + 1) (by omega)
  have ap := v.ap (2 * i) (2 * i + 1) (by omega) (by omega) (by omega)
  rw [p1, p3] at l1
  rw [p2, p4] at l2
  rcases hji with rfl | rfl
  · have e := (oth_in v ha hi).1 hin
    have hx : x = (l.getD i .z).s + a - (l.getD i .z).f := by rw [h] at e; exact congrArg Prod.fst e
    have hin' := hin
    unfold inS at hin
    rw [p1, p3] at hin
    have hx2 : inS l (2 * i + 1) x := by unfold inS; rw [p2, p4]; omega
    refine ⟨?_, fun e => ap a hin' (by rw [← e]; exact hx2)⟩
    rw [(oth_in v (a := x) (by omega) hi).2 hx2]
    congr 1; omega
  · have e := (oth_in v ha hi).2 hin
    have hx : x = (l.getD i .z).f + a - (l.getD i .z).s := by rw [h] at e; exact congrArg Prod.fst e
    have hin' := hin
    unfold inS at hin
    rw [p2, p4] at hin
    have hx2 : inS l (2 * i) x := by unfold inS; rw [p1, p3]; omega
    refine ⟨?_, fun e => ap a (by rw [← e]; exact hx2) hin'⟩
    rw [(oth_in v (a := x) (by omega) hi).1 hx2]
    congr 1; omega
theorem cnt_in (f c : Nat) : ∀ N, (List.range N).countP (fun a => decide (f ≤ a ∧ a < f + c)) = min N (f + c) - min N f
  | 0 => by simp
  | N + 1 => by
    rw [List.range_succ, List.countP_append, cnt_in f c N]
    simp only [List.countP_cons, List.countP_nil, decide_eq_true_eq]
    split <;> omega
def cnt (l : List Pr) (n : Nat) : Nat := (List.range n).countP fun a : Nat => (othF (a : Int) l).2
theorem cnt_succ (l : List Pr) (n : Nat) : cnt l (n + 1) = cnt l n + if (othF (n : Int) l).2 = true then 1 else 0 := by
  unfold cnt
  rw [List.range_succ, List.countP_append]
  simp [List.countP_cons]
def sumC (l : List Pr) : Nat → Int
  | 0 => 0
  | i + 1 => sumC l i + 2 * (l.getD i .z).c
theorem cnt_le (l : List Pr) (n : Nat) : cnt l n ≤ n := by
  have := List.countP_le_length (p := fun a : Nat => (othF (a : Int) l).2) (l := List.range n)
  simpa [cnt] using this
theorem cnt_sum {l : List Pr} (v : VS l) : (cnt l 80 : Int) = sumC l l.length := by
  have step : ∀ m, m ≤ 2 * l.length → (((List.range 80).countP fun a : Nat => decide (∃ j, j < m ∧ inS l j (a : Int)) : Nat) : Int) = (List.range m).foldl (fun s j => s + spN l j) 0 := by
    intro m
    induction m with
    | zero => intro _; simp
    | succ m ih =>
      intro hm
      rw [List.range_succ (n := m), List.foldl_append, ← ih (by omega)]
      simp only [List.foldl_cons, List.foldl_nil]
      have lo := v.lo m (by omega)
      have one : (((List.range 80).countP fun a : Nat => decide (inS l m (a : Int)) : Nat) : Int) = spN l m := by
        have : (List.range 80).countP (fun a : Nat => decide (inS l m (a : Int))) = (List.range 80).countP (fun a : Nat => decide ((spA l m).toNat ≤ a ∧ a < (spA l m).toNat + (spN l m).toNat)) := by
          refine List.countP_congr fun a _ => ?_
          rw [decide_eq_true_iff, decide_eq_true_iff]
          show (spA l m ≤ (a : Int) ∧ (a : Int) < spA l m + spN l m) ↔ _
          constructor <;> intro h <;> omega
        rw [this, cnt_in]
        omega
      rw [← one]
      have split : ∀ (L : List Nat), (L.countP fun a : Nat => decide (∃ j, j < m + 1 ∧ inS l j (a : Int))) = (L.countP fun a : Nat => decide (∃ j, j < m ∧ inS l j (a : Int))) + (L.countP fun a : Nat => decide (inS l m (a : Int))) := by
        intro L
        induction L with
        | nil => rfl
        | cons a L ihL =>
          simp only [List.countP_cons, ihL, decide_eq_true_eq]
          by_cases h1 : ∃ j, j < m ∧ inS l j (a : Int)
          · have h2 : ¬ inS l m (a : Int) := fun h => by
              obtain ⟨j, hj, hin⟩ := h1
              exact v.ap j m (by omega) (by omega) (by omega) _ hin h
            have h3 : ∃ j, j < m + 1 ∧ inS l j (a : Int) := by obtain ⟨j, hj, hin⟩ := h1; exact ⟨j, by omega, hin⟩
            rw [if_pos h1, if_neg h2, if_pos h3]; omega
          · by_cases h2 : inS l m (a : Int)
            · have h3 : ∃ j, j < m + 1 ∧ inS l j (a : Int) := ⟨m, by omega, h2⟩
              rw [if_neg h1, if_pos h2, if_pos h3]; omega
            · have h3 : ¬ ∃ j, j < m + 1 ∧ inS l j (a : Int) := by
                rintro ⟨j, hj, hin⟩
                rcases Nat.lt_or_ge j m with h | h
                · exact h1 ⟨j, h, hin⟩
                · obtain rfl : j = m := by omega
                  exact h2 hin
              rw [if_neg h1, if_neg h2, if_neg h3]; omega
      rw [split]
      push_cast
      rfl
  have h1 : cnt l 80 = (List.range 80).countP fun a : Nat => decide (∃ j, j < 2 * l.length ∧ inS l j (a : Int)) := by
    refine List.countP_congr fun a ha => ?_
    rw [List.mem_range] at ha
    rw [oth_ok v (by omega), decide_eq_true_eq]
  rw [h1, step _ (Nat.le_refl _)]
  have h2 : ∀ i, (List.range (2 * i)).foldl (fun s j => s + spN l j) 0 = sumC l i := by
    intro i
    induction i with
    | zero => rfl
    | succ i ih =>
      obtain ⟨_, _, p3, p4⟩ := sp0 l i
      rw [show 2 * (i + 1) = 2 * i + 1 + 1 by omega, List.range_succ, List.range_succ, List.foldl_append, List.foldl_append, ih]
      simp only [List.foldl_cons, List.foldl_nil, p3, p4, sumC]
      omega
  exact h2 _
end Go.Sx.T1
namespace Go.Sx.T1
open Go.Proofs
theorem Made.k {r : RD} (h : Made r) : r.ok := ⟨by rw [h.w]; split <;> omega, by have := h.c; omega⟩
theorem join_is (a b : RD) (ha : a.ok) (hb : b.ok) (p : RD × Int) (e : joinF a b = p) : FC Try.prog 11 [.o (rd0 a 0 1), .o (rd0 b 2 3)] [u8s a.W false, i64s a.C false, u8s b.W false, i64s b.C false] (joinS p) (joinM a b p) := by
  obtain ⟨p', h, e'⟩ := join_fc a b ha hb
  rw [e] at e'; subst e'; exact h
theorem rep_is (a b : RD) (p : Bool × Bool) (e : repF a b = p) : FC Try.prog 13 [.o (rd0 a 0 1), .o (rd0 b 2 3)] [u8s a.W false, i64s a.C false, u8s b.W false, i64s b.C false] (repS p) [u8s a.W false, i64s a.C false, u8s b.W false, i64s b.C false] := by
  obtain ⟨p', h, e'⟩ := repair_fc a b
  rw [e] at e'; subst e'; exact h
theorem sumC_bd {l : List Pr} (hs : ∀ p ∈ l, Sm 3 40 p) : ∀ i, i ≤ l.length → 0 ≤ sumC l i ∧ sumC l i ≤ 8 * i
  | 0, _ => by simp [sumC]
  | i + 1, hi => by
    have h := sumC_bd hs i (by omega)
    have hm : l.getD i .z ∈ l := by simp [List.getD, show i < l.length by omega]
    have := (hs _ hm).c
    simp only [sumC]
    omega
theorem good_le {o : Int} (h : 0 ≤ o ∧ o < 4) : isGood o = decide (o ≤ 1) := by
  unfold isGood
  by_cases h1 : o ≤ 1
  · rw [decide_eq_true h1]
    rcases (show o = 0 ∨ o = 1 by omega) with rfl | rfl <;> rfl
  · rw [decide_eq_false h1, beq_false_of_ne (by omega), beq_false_of_ne (by omega)]; rfl
set_option maxHeartbeats 3200000 in
set_option maxRecDepth 10000 in
theorem law (ts : List Int) : FC Try.prog 6 [.o (.c (.s 0 0 ts.length 1))] [diceL ts] (boo true) [diceL ts] := by
  refine FC.one (FC.rj mix Try.func6 ?_)
  refine FC.u (light_fc ts) [0] ?_
  refine bselNot (bselD (fun hl => ?_) (fun hl => ?_))
  rotate_left
  · repeat refine AJoin.plain ?_
    refine FC.u awake_fc [] ?_
    exact ⟨(), trivial, .id rfl ⟨.inl rfl, trivial⟩⟩
  repeat refine AJoin.plain ?_
  refine FC.u (roll_fc ts) [0] ?_
  refine FC.x (pairs_fc ts hl) [1, 0] (fun ⟨l, k0⟩ ⟨len0, sm0⟩ => ?_)
  simp only at len0 sm0
  repeat refine AJoin.plain ?_
  refine FC.x (valid_fc l (by omega)) [2] (fun b1 e1 => ?_)
  refine bselNot (bsel_intro (fun h5 => ?_) (fun h5 => ?_))
  rotate_left
  · repeat refine AJoin.plain ?_
    refine FC.u awake_fc [] ?_
    exact ⟨(), trivial, .id rfl ⟨.inl rfl, trivial⟩⟩
  have v := vs_of sm0 (e1.1 h5)
  repeat refine AJoin.plain ?_
  refine ALoop.go (X := Nat) (fun a => a ≤ 80) (fun a => 80 - a) [3, 4] [0, 1, 2] (fun a => [(5, int .i64 (cnt l a)), (34, int .i64 a)])
    (fun _ => []) 0 (Nat.zero_le _) ⟨rfl, rfl, trivial⟩ trivial ?_
  intro a ha
  dsimp only [headF, headM]
  refine bselD (fun h => ?_) (fun h => ?_)
  · have h' : a < 80 := by have : (a : Int) < 80 := h; omega
    have wa : IntKind.i64.wrap ((a : Int) + 1) = ((a + 1 : Nat) : Int) := wrap64_in (by omega) (by omega)
    have cl := cnt_le l a
    have cs := cnt_succ l a
    repeat refine AJoin.plain ?_
    refine FC.x (other_fc l a (by omega)) [2] (fun r1 f1 => ?_)
    obtain ⟨x, ok⟩ := r1
    refine bselNot (bsel_intro (fun hok => ?_) (fun hok => ?_))
    · subst hok
      obtain ⟨back, ne⟩ := oth_back v (a := (a : Int)) (by omega) f1.symm
      repeat refine AJoin.plain ?_
      refine FC.x (other_fc l x (by omega)) [2] (fun r2 f2 => ?_)
      rw [back] at f2
      subst f2
      refine bselF (bneI _) ?_
      refine bselF (beq_false_of_ne ne) ?_
      rw [← f1, if_pos rfl] at cs
      have wc : IntKind.i64.wrap ((cnt l a : Int) + 1) = ((cnt l (a + 1) : Nat) : Int) := by rw [cs]; exact wrap64_in (by omega) (by omega)
      exact ⟨a + 1, ⟨by omega, by show 80 - (a + 1) < 80 - a; omega⟩, .id ⟨congrArg (int .i64) wc, congrArg (int .i64) wa, trivial⟩ rfl trivial rfl⟩
    · subst hok
      rw [← f1, if_neg (show ¬ (false = true) by decide)] at cs
      exact ⟨a + 1, ⟨by omega, by show 80 - (a + 1) < 80 - a; omega⟩, .id ⟨congrArg (int .i64) (show (cnt l a : Int) = (cnt l (a + 1) : Nat) by rw [cs, Nat.add_zero]), congrArg (int .i64) wa, trivial⟩ rfl trivial rfl⟩
  · obtain rfl : a = 80 := by have : ¬ (a : Int) < 80 := h; omega
    repeat refine AJoin.plain ?_
    have c80 := cnt_le l 80
    have hsum := cnt_sum v
    refine ALoop.go (X := Nat) (fun i => i ≤ l.length) (fun i => l.length - i) [3, 66, 67] [0, 1, 2] (fun i => [(5, int .i64 ((cnt l 80 : Int) - sumC l i)), (68, int .i64 i)])
      (fun _ => []) 0 (Nat.zero_le _) ⟨congrArg (int .i64) (show (cnt l 80 : Int) = (cnt l 80 : Int) - sumC l 0 by simp [sumC]), rfl, trivial⟩ trivial ?_
    intro i hi
    dsimp only [headF, headM]
    refine bselD (fun h => ?_) (fun h => ?_)
    · have h' : i < l.length := by have : (i : Int) < l.length := h; omega
      have wi : IntKind.i64.wrap ((i : Int) + 1) = ((i + 1 : Nat) : Int) := wrap64_in (by omega) (by omega)
      have hm : l.getD i .z ∈ l := by simp [List.getD, h']
      have hc := (sm0 _ hm).c
      have sb := sumC_bd sm0 i hi
      have w1 : IntKind.i64.wrap ((cnt l 80 : Int) - sumC l i - IntKind.i64.wrap (2 * (l.getD (0 + (i : Int).toNat) .z).c)) = (cnt l 80 : Int) - sumC l (i + 1) := by
        rw [show 0 + (i : Int).toNat = i by omega, wrap64_in (n := 2 * (l.getD i .z).c) (by omega) (by omega), wrap64_in (by omega) (by omega)]
        simp only [sumC]; omega
      repeat refine AJoin.plain ?_
      refine And.intro ⟨by omega, by omega⟩ ?_
      refine And.intro (by show 0 + i < l.length; omega) ?_
      repeat (first | refine And.intro (by kernel_rfl) ?_ | refine And.intro (by decide) ?_)
      exact ⟨i + 1, ⟨by omega, by show l.length - (i + 1) < l.length - i; omega⟩, .id ⟨congrArg (int .i64) w1, congrArg (int .i64) wi, trivial⟩ rfl trivial rfl⟩
    · obtain rfl : i = l.length := by have : ¬ (i : Int) < l.length := h; omega
      have hn : ((cnt l 80 : Int) - sumC l l.length == 0) = true := by rw [hsum, Int.sub_self]; rfl
      refine FC.x (reading_fc ts k0 hl) [1, 0] (fun ⟨a, ka⟩ ma => ?_)
      refine FC.x (reading_fc ts ka hl) [1, 0] (fun ⟨b, kb⟩ mb => ?_)
      simp only at ma mb
      have ga := good_le ma.o
      have gb := good_le mb.o
      repeat (first | refine And.intro (by kernel_rfl) ?_ | refine And.intro (by decide) ?_)
      rcases A : decide (a.o ≤ 1) with _ | _ <;> rcases B : decide (b.o ≤ 1) with _ | _ <;> rw [A] at ga <;> rw [B] at gb
      · refine FC.u (join_is a b ma.k mb.k (a, 0) (by simp [joinF, ga, gb])) [3, 4, 5, 6] ?_
        refine FC.u (rep_is a b (false, false) (by simp [repF, ga, gb])) [3, 4, 5, 6] ?_
        repeat (first | refine And.intro (by kernel_rfl) ?_ | refine And.intro (by decide) ?_)
        refine bselT hn ?_
        refine bselF A ?_
        refine bselT (show (decide (a.o ≤ 1) == decide (b.o ≤ 1)) = true by rw [A, B]; rfl) ?_
        refine bselT (show (!decide (a.o ≤ 1)) = true by rw [A]; rfl) ?_
        refine bselT (show (false == decide (b.o ≤ 1)) = true by rw [B]; rfl) ?_
        refine bselF A ?_
        refine FC.u awake_fc [] ?_
        exact ⟨(), trivial, .id rfl ⟨.inl rfl, trivial⟩⟩
      · refine FC.u (join_is a b ma.k mb.k (⟨1, b.W, b.C⟩, 1) (by simp [joinF, ga, gb])) [3, 4, 5, 6] ?_
        refine FC.u (rep_is a b (true, false) (by simp [repF, ga, gb])) [3, 4, 5, 6] ?_
        repeat (first | refine And.intro (by kernel_rfl) ?_ | refine And.intro (by decide) ?_)
        refine bselT hn ?_
        refine bselF A ?_
        refine bselT (show (true == decide (b.o ≤ 1)) = true by rw [B]; rfl) ?_
        refine bselT (show (!decide (a.o ≤ 1)) = true by rw [A]; rfl) ?_
        refine bselT (show (true == decide (b.o ≤ 1)) = true by rw [B]; rfl) ?_
        refine bselF A ?_
        refine FC.u awake_fc [] ?_
        exact ⟨(), trivial, .id rfl ⟨.inl rfl, trivial⟩⟩
      · refine FC.u (join_is a b ma.k mb.k (a, 0) (by simp [joinF, ga, gb])) [3, 4, 5, 6] ?_
        refine FC.u (rep_is a b (false, true) (by simp [repF, ga, gb])) [3, 4, 5, 6] ?_
        repeat (first | refine And.intro (by kernel_rfl) ?_ | refine And.intro (by decide) ?_)
        refine bselT hn ?_
        refine bselT A ?_
        refine bselT (show (decide (a.o ≤ 1) == true) = true by rw [A]; rfl) ?_
        refine bselF (show (!decide (a.o ≤ 1)) = false by rw [A]; rfl) ?_
        refine bselT A ?_
        refine bselT (show (true == !decide (b.o ≤ 1)) = true by rw [B]; rfl) ?_
        refine FC.u awake_fc [] ?_
        exact ⟨(), trivial, .id rfl ⟨.inl rfl, trivial⟩⟩
      · refine FC.u (join_is a b ma.k mb.k (a, 0) (by simp [joinF, ga, gb])) [3, 4, 5, 6] ?_
        refine FC.u (rep_is a b (false, false) (by simp [repF, ga, gb])) [3, 4, 5, 6] ?_
        repeat (first | refine And.intro (by kernel_rfl) ?_ | refine And.intro (by decide) ?_)
        refine bselT hn ?_
        refine bselT A ?_
        refine bselT (show (decide (a.o ≤ 1) == true) = true by rw [A]; rfl) ?_
        refine bselF (show (!decide (a.o ≤ 1)) = false by rw [A]; rfl) ?_
        refine bselT A ?_
        refine bselT (show (false == !decide (b.o ≤ 1)) = true by rw [B]; rfl) ?_
        refine FC.u awake_fc [] ?_
        exact ⟨(), trivial, .id rfl ⟨.inl rfl, trivial⟩⟩
end Go.Sx.T1
