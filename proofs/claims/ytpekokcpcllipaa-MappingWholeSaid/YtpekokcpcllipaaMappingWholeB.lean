/- Contracts of the functions that MappingWhole reaches, and the walk of the law, part 2. Conditions: none. -/
import Derived.Test.YtpekokcpcllipaaMappingWholeA
namespace Go.Sx.T1
open Go.Proofs
def sizeL : List Nat := (List.range 65).map fun k => 2 ^ k
set_option maxHeartbeats 3200000 in
set_option maxRecDepth 10000 in
theorem bits6_fc (s : S6) (g : ShG 100 s) : FC Try.prog 13 [s6S s] [] (int .i64 (sumTo s 6)) [] := by
  refine FC.one (FC.r mix Try.func13 ?_)
  have a0 := g.lo 0 (by omega); have a1 := g.lo 1 (by omega); have a2 := g.lo 2 (by omega); have a3 := g.lo 3 (by omega); have a4 := g.lo 4 (by omega); have a5 := g.lo 5 (by omega)
  have hs := g.sum
  simp only [sumTo] at hs
  have e : IntKind.i64.wrap (IntKind.i64.wrap (IntKind.i64.wrap (IntKind.i64.wrap (IntKind.i64.wrap (s.a + s.b) + s.c) + s.d) + s.e) + s.f) = sumTo s 6 := by
    show IntKind.i64.wrap (IntKind.i64.wrap (IntKind.i64.wrap (IntKind.i64.wrap (IntKind.i64.wrap (s.get 0 + s.get 1) + s.get 2) + s.get 3) + s.get 4) + s.get 5) = 0 + s.get 0 + s.get 1 + s.get 2 + s.get 3 + s.get 4 + s.get 5
    rw [wrap64_in (n := s.get 0 + s.get 1) (by omega) (by omega), wrap64_in (n := s.get 0 + s.get 1 + s.get 2) (by omega) (by omega), wrap64_in (n := s.get 0 + s.get 1 + s.get 2 + s.get 3) (by omega) (by omega), wrap64_in (n := s.get 0 + s.get 1 + s.get 2 + s.get 3 + s.get 4) (by omega) (by omega), wrap64_in (by omega) (by omega)]
    omega
  exact ⟨(), trivial, .id (congrArg (int .i64) e) trivial⟩
def unitL (b : Nat) : List Int := (List.range b).map fun k => ((2 ^ k : Nat) : Int)
theorem unitL_len (b : Nat) : (unitL b).length = b := by simp [unitL]
theorem unitL_succ (b : Nat) : unitL (b + 1) = unitL b ++ [((2 ^ b : Nat) : Int)] := by simp [unitL, List.range_succ]
/-- masks that are one to one: sums of single bits -/
inductive Msk (b : Nat) : List Int → Prop where
  | unit : Msk b (unitL b)
  | xor {l : List Int} (h : Msk b l) (i k : Nat) (hi : i < b) (hk : k < b) (hne : i ≠ k) : Msk b (l.set i (bitI .xor .u64 (l.getD i 0) (l.getD k 0)))
theorem Msk.len {b : Nat} {l : List Int} (h : Msk b l) : l.length = b := by
  induction h with
  | unit => exact unitL_len b
  | xor _ _ _ _ _ _ ih => rw [List.length_set, ih]
theorem pow_u64 (i : Nat) (hi : i < 64) : IntKind.u64.wrap (1 * 2 ^ min (IntKind.u64.wrap (i : Int)).toNat IntKind.u64.bits) = ((2 ^ i : Nat) : Int) := by
  have : ∀ j : Fin 64, IntKind.u64.wrap (1 * 2 ^ min (j.val : Int).toNat IntKind.u64.bits) = ((2 ^ j.val : Nat) : Int) := by decide +kernel
  rw [show IntKind.u64.wrap (i : Int) = i from wrapU64_in (by omega) (by omega)]
  exact this ⟨i, hi⟩
structure KS where
  n : Nat
  k : Nat
  l : List Int
def mkM' (ts : List Int) (x : List Int × Nat) : Mem := [diceB ts x.2, diceL ts, u64s x.1 true]
set_option maxHeartbeats 3200000 in
set_option maxRecDepth 10000 in
theorem masks_fc (ts : List Int) (k b : Nat) (hl : ts.length ≤ 400) (hb : b ≤ 60) : ∃ x : List Int × Nat, FC Try.prog 28 [.o (.c (.p 0 0 0)), int .i64 b] [diceB ts k, diceL ts] (.o (.c (.s 2 0 x.1.length 1))) (mkM' ts x) ∧ Msk b x.1 := by
  refine FC.rj mix Try.func28 ?_
  refine ALoop.goN (X := Nat) (fun i => i ≤ b) (fun i => b - i) [0, 1] [0, 1] (fun i => [(5, .o (.c (.s 2 0 i 1))), (6, int .i64 i)])
    (fun i => [(2, ⟨.ints .u64 (unitL i), true⟩)]) 0 3 (Nat.zero_le _) (isAt.go [(2, .new 1)] ⟨rfl, rfl, trivial⟩ ⟨newI 1 rfl, trivial⟩) ?_
  intro i hi
  dsimp only [headF, headM]
  refine bselD (fun h => ?_) (fun h => ?_)
  · have h' : i < b := by have : (i : Int) < b := h; omega
    have wi : IntKind.i64.wrap ((i : Int) + 1) = ((i + 1 : Nat) : Int) := wrap64_in (by omega) (by omega)
    have hp := pow_u64 i (by omega)
    have hu : 0 ≤ IntKind.u64.wrap (i : Int) := by rw [wrapU64_in (by omega) (by omega)]; omega
    repeat refine AJoin.plain ?_
    repeat (first | refine And.intro (by kernel_rfl) ?_ | refine And.intro (by decide) ?_)
    refine And.intro hu ?_
    refine And.intro ⟨by show 0 + i ≤ (unitL i).length; rw [unitL_len]; omega, trivial⟩ ?_
    refine And.intro ⟨Nat.le_of_ble_eq_true rfl, trivial⟩ ?_
    refine And.intro (by show i + 1 ≤ 4294967296; omega) ?_
    repeat (first | refine And.intro (by kernel_rfl) ?_ | refine And.intro (by decide) ?_)
    refine ⟨i + 1, ⟨by omega, by show b - (i + 1) < b - i; omega⟩, isAt.go [(2, .to 4)] ⟨rfl, congrArg (int .i64) wi, trivial⟩ ⟨leB.ints_eq ?_ id, trivial⟩⟩
    show List.take i (List.drop 0 (unitL i)) ++ List.take 1 (List.drop 0 [IntKind.u64.wrap (1 * 2 ^ min (IntKind.u64.wrap (i : Int)).toNat IntKind.u64.bits)]) = unitL (i + 1)
    rw [hp, List.drop_zero, List.take_of_length_le (by rw [unitL_len]; omega), unitL_succ]; rfl
  · obtain rfl : i = b := by have : ¬ (i : Int) < b := h; omega
    have w3 : IntKind.i64.wrap (IntKind.i64.wrap (3 * (i : Int)) + 1) = 3 * i + 1 := by rw [wrap64_in (n := 3 * (i : Int)) (by omega) (by omega), wrap64_in (by omega) (by omega)]
    conv => whnf
    rw [w3]
    have hn := dv_bd ts k (n := 3 * (i : Int) + 1) (by omega)
    refine FC.x (next_x ts k (3 * (i : Int) + 1) (by omega) hl) [0, 1] (fun n en => ?_)
    rw [← en] at hn
    clear en
    obtain ⟨n, rfl⟩ : ∃ m : Nat, n = m := ⟨n.toNat, by omega⟩
    have hn2 : (n : Int) < 3 * i + 1 := hn.2
    clear hn
    refine ALoop.go (X := KS) (fun x => x.n ≤ 1000 ∧ Msk i x.l) (fun x => x.n) [0, 1, 5] [1] (fun x => [(7, int .i64 x.n)])
      (fun x => [(0, ⟨.box [.s 1 0 ts.length 1, .v (.int .i64 (min x.k ts.length : Nat))], true⟩), (2, ⟨.ints .u64 x.l, true⟩)]) ⟨n, k + 1, unitL i⟩ ⟨by show n ≤ 1000; omega, .unit⟩ ⟨rfl, trivial⟩ ⟨.inl rfl, .inl rfl, trivial⟩ ?_
    rintro ⟨n, k, l⟩ ⟨hn, hm⟩
    simp only at hn hm
    have ll := hm.len
    dsimp only [headF, headM]
    refine bselD (fun hgt => ?_) (fun hle => ?_)
    · refine bselD (fun hb1 => ?_) (fun hb1 => ?_)
      · have hn0 : 0 < n := by have : (n : Int) > 0 := hgt; omega
        have hi1 : 1 < i := by have : (i : Int) > 1 := hb1; omega
        have wn : IntKind.i64.wrap ((n : Int) - 1) = ((n - 1 : Nat) : Int) := by rw [wrap64_in (by omega) (by omega)]; omega
        repeat refine AJoin.plain ?_
        have d1 := dv_bd ts k (n := (i : Int)) (by omega)
        refine FC.x (next_x ts k (i : Int) (by omega) hl) [0, 1] (fun u eu => ?_)
        rw [← eu] at d1
        clear eu
        obtain ⟨u, rfl⟩ : ∃ m : Nat, u = m := ⟨u.toNat, by omega⟩
        have wi1 : IntKind.i64.wrap ((i : Int) - 1) = (i : Int) - 1 := wrap64_in (by omega) (by omega)
        conv => whnf
        rw [wi1]
        have d2 := dv_bd ts (k + 1) (n := (i : Int) - 1) (by omega)
        refine FC.x (next_x ts (k + 1) ((i : Int) - 1) (by omega) hl) [0, 1] (fun v ev => ?_)
        rw [← ev] at d2
        clear ev
        obtain ⟨v, rfl⟩ : ∃ m : Nat, v = m := ⟨v.toNat, by omega⟩
        have w1 : IntKind.i64.wrap ((u : Int) + 1) = ((u + 1 : Nat) : Int) := wrap64_in (by omega) (by omega)
        have w2 : IntKind.i64.wrap (((u + 1 : Nat) : Int) + v) = ((u + 1 + v : Nat) : Int) := wrap64_in (by omega) (by omega)
        have w3 : ((u + 1 + v : Nat) : Int).tmod (i : Int) = (((u + 1 + v) % i : Nat) : Int) := rfl
        have hmod : (u + 1 + v) % i < i := Nat.mod_lt _ (by omega)
        have hne : u ≠ (u + 1 + v) % i := by
          rcases Nat.lt_or_ge (u + 1 + v) i with h | h
          · rw [Nat.mod_eq_of_lt h]; omega
          · rw [Nat.mod_eq_sub_mod h, Nat.mod_eq_of_lt (by omega)]; omega
        conv => whnf
        rw [w1, w2, w3]
        generalize (u + 1 + v) % i = q at hmod hne
        refine And.intro (by omega) ?_
        repeat (first | refine And.intro (by kernel_rfl) ?_ | refine And.intro (by decide) ?_)
        refine And.intro ⟨by omega, by show (u : Int) < (i : Int); omega⟩ ?_
        refine And.intro (by show 0 + u < l.length; omega) ?_
        repeat (first | refine And.intro (by kernel_rfl) ?_ | refine And.intro (by decide) ?_)
        refine And.intro ⟨by omega, by show (q : Int) < (i : Int); omega⟩ ?_
        refine And.intro (by show 0 + q < l.length; omega) ?_
        repeat (first | refine And.intro (by kernel_rfl) ?_ | refine And.intro (by decide) ?_)
        refine And.intro ⟨by omega, by show (u : Int) < (i : Int); omega⟩ ?_
        refine And.intro (by show 0 + u < l.length; omega) ?_
        repeat (first | refine And.intro (by kernel_rfl) ?_ | refine And.intro (by decide) ?_)
        refine ⟨⟨n - 1, k + 1 + 1, l.set u (bitI .xor .u64 (l.getD u 0) (l.getD q 0))⟩, ⟨⟨by show n - 1 ≤ 1000; omega, .xor hm u q (by omega) hmod hne⟩, by show n - 1 < n; omega⟩, .id ⟨congrArg (int .i64) wn, trivial⟩ rfl ⟨.inl rfl, leB.ints_eq ?_ id, trivial⟩ rfl⟩
        show l.set (0 + u) (bitI .xor .u64 (l.getD (0 + u) 0) (l.getD (0 + q) 0)) = _
        rw [Nat.zero_add, Nat.zero_add]
      · exact ⟨(l, k), hm, .id (congrArg (fun n => SV.o (.c (.s 2 0 n 1))) ll.symm) ⟨.inl rfl, .inl rfl, .inl rfl, trivial⟩⟩
    · exact ⟨(l, k), hm, .id (congrArg (fun n => SV.o (.c (.s 2 0 n 1))) ll.symm) ⟨.inl rfl, .inl rfl, .inl rfl, trivial⟩⟩
end Go.Sx.T1
namespace Go.Sx.T1
open Go.Proofs
/-- a map that was made; b the bits of its shape -/
structure MapG (b : Nat) (m : MapR) : Prop where
  sh : ShG 12 m.s
  sum : sumTo m.s 6 = b
  msk : Msk b m.M
  lo : 0 ≤ m.lo ∧ m.lo ≤ ((2 ^ b : Nat) : Int)
  hi : m.lo ≤ m.hi ∧ m.hi ≤ 1048576
  fit : m.hi - m.lo + ((2 ^ b : Nat) : Int) ≤ 1048576
theorem pow_i64 (b : Nat) (hb : b ≤ 12) : IntKind.i64.wrap (1 * 2 ^ min (IntKind.u64.wrap (b : Int)).toNat IntKind.i64.bits) = ((2 ^ b : Nat) : Int) ∧ 2 ^ b ≤ 4096 ∧ 1 ≤ 2 ^ b := by
  have : ∀ j : Fin 13, IntKind.i64.wrap (1 * 2 ^ min (j.val : Int).toNat IntKind.i64.bits) = ((2 ^ j.val : Nat) : Int) ∧ 2 ^ j.val ≤ 4096 ∧ 1 ≤ 2 ^ j.val := by decide +kernel
  rw [show IntKind.u64.wrap (b : Int) = b from wrapU64_in (by omega) (by omega)]
  exact this ⟨b, by omega⟩
def mapM (ts : List Int) (x : MapR × Nat) : Mem := [diceB ts x.2, diceL ts, u64s x.1.M true]
set_option maxHeartbeats 3200000 in
set_option maxRecDepth 10000 in
theorem map_fcS (ts : List Int) (k : Nat) (s : S6) (b : Nat) (hl : ts.length ≤ 400) (g : ShG 12 s) (hb : sumTo s 6 = b) : ∃ x : MapR × Nat, FC Try.prog 12 [.o (.c (.p 0 0 0)), s6S s] [diceB ts k, diceL ts] (mS x.1 2) (mapM ts x) ∧ (x.1.s = s ∧ MapG b x.1) := by
  have g100 : ShG 100 s := ⟨g.lo, by have := g.sum; omega⟩
  have hb12 : b ≤ 12 := by have := g.sum; omega
  have bits : FC Try.prog 13 [s6S s] [] (int .i64 b) [] := by have := bits6_fc s g100; rwa [hb] at this
  obtain ⟨p1, p2, p3⟩ := pow_i64 b hb12
  have hu : 0 ≤ IntKind.u64.wrap (b : Int) := by rw [wrapU64_in (by omega) (by omega)]; omega
  refine FC.r mix Try.func12 ?_
  refine FC.u bits [] ?_
  repeat (first | refine And.intro (by kernel_rfl) ?_ | refine And.intro (by decide) ?_)
  refine And.intro hu ?_
  conv => whnf
  rw [p1]
  generalize hz : 2 ^ b = z at p2 p3
  refine FC.u bits [] ?_
  refine FC.x (masks_fc ts k b hl (by omega)) [0, 1] (fun ⟨M, k1⟩ hM => ?_)
  simp only at hM
  repeat (first | refine And.intro (by kernel_rfl) ?_ | refine And.intro (by decide) ?_)
  have wz : IntKind.i64.wrap ((z : Int) + 1) = (z : Int) + 1 := wrap64_in (by omega) (by omega)
  conv => whnf
  rw [wz]
  have d1 := dv_bd ts k1 (n := (z : Int) + 1) (by omega)
  refine FC.x (next_x ts k1 ((z : Int) + 1) (by omega) hl) [0, 1] (fun lo elo => ?_)
  rw [← elo] at d1
  clear elo
  have d2 := dv_bd ts (k1 + 1) (n := 100) (by omega)
  refine FC.x (next_x ts (k1 + 1) 100 (by omega) hl) [0, 1] (fun v ev => ?_)
  rw [← ev] at d2
  clear ev
  have d3 := dv_bd ts (k1 + 1 + 1) (n := 524288) (by omega)
  refine FC.x (next_x ts (k1 + 1 + 1) 524288 (by omega) hl) [0, 1] (fun w ew => ?_)
  rw [← ew] at d3
  clear ew
  have d4 := dv_bd ts (k1 + 1 + 1 + 1) (n := 5) (by omega)
  refine FC.x (next_x ts (k1 + 1 + 1 + 1) 5 (by omega) hl) [0, 1] (fun q eq => ?_)
  rw [← eq] at d4
  clear eq
  obtain ⟨q, rfl⟩ : ∃ m : Nat, q = m := ⟨q.toNat, by omega⟩
  have w1 : IntKind.i64.wrap (1048576 - (z : Int)) = 1048576 - z := wrap64_in (by omega) (by omega)
  have w2 : IntKind.i64.wrap (1048576 - (z : Int) - lo) = 1048576 - z - lo := wrap64_in (by omega) (by omega)
  refine And.intro ⟨by omega, by show (q : Int) < 5; omega⟩ ?_
  refine And.intro (by show 0 + q < 5; omega) ?_
  repeat (first | refine And.intro (by kernel_rfl) ?_ | refine And.intro (by decide) ?_)
  have hq : ∃ h : Int, IntKind.i64.wrap (lo + ([0, 1, v, IntKind.i64.wrap (IntKind.i64.wrap (1048576 - (z : Int)) - lo), w] : List Int).getD (0 + q) 0) = lo + h ∧ 0 ≤ h ∧ h + z ≤ 1048576 ∧ lo + h ≤ 1048576 := by
    rw [w1, w2, Nat.zero_add]
    rcases (show q = 0 ∨ q = 1 ∨ q = 2 ∨ q = 3 ∨ q = 4 by omega) with rfl | rfl | rfl | rfl | rfl
    · exact ⟨0, wrap64_in (by show -9223372036854775808 ≤ lo + 0; omega) (by show lo + 0 ≤ _; omega), by omega, by omega, by omega⟩
    · exact ⟨1, wrap64_in (by show -9223372036854775808 ≤ lo + 1; omega) (by show lo + 1 ≤ _; omega), by omega, by omega, by omega⟩
    · exact ⟨v, wrap64_in (by show -9223372036854775808 ≤ lo + v; omega) (by show lo + v ≤ _; omega), by omega, by omega, by omega⟩
    · exact ⟨1048576 - z - lo, wrap64_in (by show -9223372036854775808 ≤ lo + (1048576 - z - lo); omega) (by show lo + (1048576 - z - lo) ≤ _; omega), by omega, by omega, by omega⟩
    · exact ⟨w, wrap64_in (by show -9223372036854775808 ≤ lo + w; omega) (by show lo + w ≤ _; omega), by omega, by omega, by omega⟩
  obtain ⟨h, eh, h1, h2, h3⟩ := hq
  refine ⟨(⟨s, M, lo, lo + h⟩, k1 + 1 + 1 + 1 + 1), ⟨rfl, g, hb, hM, ?_, ⟨by simp only; omega, by simp only; omega⟩, ?_⟩, isEnd.go [(2, .to 4)] ?_ ⟨.inl rfl, .inl rfl, .inl rfl, trivial⟩⟩
  · rw [hz]; exact ⟨d1.1, by simp only; omega⟩
  · rw [hz]; simp only; omega
  · show SV.o (.a [.v (.int .i64 s.a), .v (.int .i64 s.b), .v (.int .i64 s.c), .v (.int .i64 s.d), .v (.int .i64 s.e), .v (.int .i64 s.f), .s 4 0 M.length 1, .v (.int .i64 lo), .v (.int .i64 (IntKind.i64.wrap (lo + ([0, 1, v, IntKind.i64.wrap (IntKind.i64.wrap (1048576 - (z : Int)) - lo), w] : List Int).getD (0 + q) 0)))]) = _
    rw [eh]; rfl
theorem map_fc (ts : List Int) (k : Nat) (s : S6) (b : Nat) (hl : ts.length ≤ 400) (g : ShG 12 s) (hb : sumTo s 6 = b) : ∃ x : MapR × Nat, FC Try.prog 12 [.o (.c (.p 0 0 0)), s6S s] [diceB ts k, diceL ts] (mS x.1 2) (mapM ts x) ∧ MapG b x.1 := by
  obtain ⟨x, h, _, e⟩ := map_fcS ts k s b hl g hb
  exact ⟨x, h, e⟩
end Go.Sx.T1
namespace Go.Sx.T1
open Go.Proofs Go.Sx.Gf
/-- made masks as natural numbers -/
theorem Msk.nat {b : Nat} (hb : b ≤ 60) {l : List Int} (h : Msk b l) : ∃ ns : List Nat, l = zl ns ∧ MkOk b ns := by
  induction h with
  | unit => exact ⟨units b, by unfold unitL units zl; rw [List.map_map]; rfl, units_len b, units_bd b, Ker0.units b⟩
  | xor _ i k hi hk hne ih =>
    obtain ⟨ns, rfl, hm⟩ := ih
    have hb64 : ∀ k, ns.getD k 0 < 18446744073709551616 := fun k => lt64 (hm.bd k) (by omega)
    have hl := hm.len
    refine ⟨ns.set i (ns.getD i 0 ^^^ ns.getD k 0), by rw [zl_get, zl_get, xor_u64 (hb64 i) (hb64 k), zl_set], ?_, set_bd hm.bd (xor_lt (hm.bd i) (hm.bd k)), hm.ker.step (by omega) (by omega) hne⟩
    rw [List.length_set]; exact hm.len
theorem u64s_zl (ns : List Nat) (wr : Bool) : u64s (zl ns) wr = u64n ns wr := rfl
end Go.Sx.T1
namespace Go.Sx.T1
open Go.Proofs Go.Sx.Gf
set_option maxHeartbeats 3200000 in
set_option maxRecDepth 10000 in
theorem numbers_fc (s : S6) : FC Try.prog 51 [s6S s] [] (s6S s) [] := by
  refine FC.one (FC.r mix Try.func51 ?_)
  repeat (first | refine And.intro (by kernel_rfl) ?_ | refine And.intro (by decide) ?_)
  exact ⟨(), trivial, .id rfl trivial⟩
set_option maxHeartbeats 3200000 in
set_option maxRecDepth 10000 in
theorem place_fc (s : S6) : FC Try.prog 35 [s6S s] [] (s6S s) [] := by
  refine FC.one (FC.r mix Try.func35 ?_)
  repeat (first | refine And.intro (by kernel_rfl) ?_ | refine And.intro (by decide) ?_)
  exact ⟨(), trivial, .id rfl trivial⟩
def shB (s : S6) : Bool := ((List.range 6).all fun j => decide (0 ≤ s.get j) && decide (s.get j ≤ 12)) && decide (sumTo s 6 ≤ 12)
theorem shB_iff {s : S6} : shB s = true ↔ ShV s := by
  simp only [shB, Bool.and_eq_true, List.all_eq_true, List.mem_range, decide_eq_true_eq]
  exact Iff.rfl
theorem pvalid_is (s : S6) : FC Try.prog 33 [s6S s] [] (boo (shB s)) [] := by
  obtain ⟨b, h, e⟩ := pvalid_fc s
  have : b = shB s := by rw [Bool.eq_iff_iff, e, shB_iff]
  rw [← this]; exact h
/-- the bits of a valid shape -/
def bitsN (s : S6) : Nat := (sumTo s 6).toNat
def sizeF (s : S6) : Int := if shB s = true then ((2 ^ bitsN s : Nat) : Int) else 0
def wN (s : S6) (i : Nat) : Nat := (s.get i).toNat
theorem sum_nat {s : S6} (h : ShV s) : ∀ i, i ≤ 6 → 0 ≤ sumTo s i ∧ sumTo s i ≤ sumTo s 6
  | 0, _ => by
    have a0 := h.1 0 (by omega); have a1 := h.1 1 (by omega); have a2 := h.1 2 (by omega); have a3 := h.1 3 (by omega); have a4 := h.1 4 (by omega); have a5 := h.1 5 (by omega)
    simp only [sumTo]; omega
  | i + 1, hi => by
    have a0 := h.1 0 (by omega); have a1 := h.1 1 (by omega); have a2 := h.1 2 (by omega); have a3 := h.1 3 (by omega); have a4 := h.1 4 (by omega); have a5 := h.1 5 (by omega)
    rcases below6 (show i < 6 by omega) with rfl | rfl | rfl | rfl | rfl | rfl <;> simp only [sumTo] <;> omega
theorem pow_small {n : Nat} (h : n ≤ 12) : 1 ≤ 2 ^ n ∧ 2 ^ n ≤ 4096 := ⟨Nat.one_le_two_pow, Nat.pow_le_pow_right (n := 2) (by omega) h⟩
/-- a number shifted, in an int -/
theorem shlI {a n : Nat} (hn : n ≤ 12) (h : a * 2 ^ n < 9223372036854775808) : IntKind.i64.wrap ((a : Int) * 2 ^ min (n : Int).toNat IntKind.i64.bits) = ((a * 2 ^ n : Nat) : Int) := by
  rw [show min (n : Int).toNat IntKind.i64.bits = n by rw [Int.toNat_natCast]; exact Nat.min_eq_left (Nat.le_trans hn (by decide)), show (a : Int) * 2 ^ n = ((a * 2 ^ n : Nat) : Int) by rw [Int.natCast_mul, Int.natCast_pow]; rfl]
  generalize a * 2 ^ n = P at h
  exact wrap64_in (by omega) (by omega)
set_option maxHeartbeats 3200000 in
set_option maxRecDepth 10000 in
theorem size_fc (s : S6) : FC Try.prog 29 [s6S s] [] (int .i64 (sizeF s)) [] := by
  refine FC.one (FC.rj mix Try.func29 ?_)
  repeat (first | refine And.intro (by kernel_rfl) ?_ | refine And.intro (by decide) ?_)
  refine FC.u (pvalid_is s) [] ?_
  refine bselNot (bsel_intro (fun h1 => ?_) (fun h1 => ?_))
  rotate_left
  · repeat (first | refine And.intro (by kernel_rfl) ?_ | refine And.intro (by decide) ?_)
    exact ⟨(), trivial, .id (congrArg (int .i64) (by rw [sizeF, h1]; rfl)) trivial⟩
  have hv := shB_iff.1 h1
  repeat refine AJoin.plain ?_
  refine FC.u (widths_fc s) [] ?_
  refine ALoop.go (X := Nat) (fun i => i ≤ 6) (fun i => 6 - i) [10] [] (fun i => [(3, int .i64 ((2 ^ (sumTo s i).toNat : Nat) : Int)), (11, int .i64 i)]) (fun _ => []) 0 (Nat.zero_le _) ⟨rfl, rfl, trivial⟩ trivial ?_
  intro i hi
  dsimp only [headF, headM]
  refine bselD (fun h => ?_) (fun h => ?_)
  · have h' : i < 6 := by omega
    have wi : IntKind.i64.wrap ((i : Int) + 1) = ((i + 1 : Nat) : Int) := wrap64_in (by omega) (by omega)
    have b1 := sum_nat hv i (by omega)
    have b2 := sum_nat hv (i + 1) (by omega)
    have b3 := hv.2
    have gi := hv.1 i h'
    have ge : s.get i = ((wN s i : Nat) : Int) := by unfold wN; omega
    have se : (sumTo s (i + 1)).toNat = (sumTo s i).toNat + wN s i := by simp only [sumTo] at b2 ⊢; omega
    have p1 := pow_small (n := (sumTo s (i + 1)).toNat) (by omega)
    have key : IntKind.i64.wrap (((2 ^ (sumTo s i).toNat : Nat) : Int) * 2 ^ min (s.get i).toNat IntKind.i64.bits) = ((2 ^ (sumTo s (i + 1)).toNat : Nat) : Int) := by
      rw [ge, shlI (by omega) (by rw [← Nat.pow_add, ← se]; omega), ← Nat.pow_add, ← se]
    have g0 := gi.1
    repeat refine AJoin.plain ?_
    rcases below6 h' with rfl | rfl | rfl | rfl | rfl | rfl <;>
    · refine And.intro ⟨by decide, by decide⟩ ?_
      refine And.intro g0 ?_
      repeat (first | refine And.intro (by kernel_rfl) ?_ | refine And.intro (by decide) ?_)
      exact ⟨_, ⟨by decide, by decide⟩, .id ⟨congrArg (int .i64) key, congrArg (int .i64) wi, trivial⟩ rfl trivial rfl⟩
  · obtain rfl : i = 6 := by omega
    repeat (first | refine And.intro (by kernel_rfl) ?_ | refine And.intro (by decide) ?_)
    exact ⟨(), trivial, .id (congrArg (int .i64) (by rw [sizeF, h1]; rfl)) trivial⟩
set_option maxHeartbeats 3200000 in
set_option maxRecDepth 10000 in
theorem len64_0 : FC Try.prog 53 [int .u64 1] [] (int .i64 1) [] := by
  refine FC.one (FC.r mix Try.func53 ?_)
  repeat (first | refine And.intro (by kernel_rfl) ?_ | refine And.intro (by decide) ?_)
  refine ⟨(), trivial, .id rfl trivial⟩
set_option maxHeartbeats 3200000 in
set_option maxRecDepth 10000 in
theorem len64_1 : FC Try.prog 53 [int .u64 2] [] (int .i64 2) [] := by
  refine FC.one (FC.r mix Try.func53 ?_)
  repeat (first | refine And.intro (by kernel_rfl) ?_ | refine And.intro (by decide) ?_)
  refine ⟨(), trivial, .id rfl trivial⟩
set_option maxHeartbeats 3200000 in
set_option maxRecDepth 10000 in
theorem len64_2 : FC Try.prog 53 [int .u64 4] [] (int .i64 3) [] := by
  refine FC.one (FC.r mix Try.func53 ?_)
  repeat (first | refine And.intro (by kernel_rfl) ?_ | refine And.intro (by decide) ?_)
  refine ⟨(), trivial, .id rfl trivial⟩
set_option maxHeartbeats 3200000 in
set_option maxRecDepth 10000 in
theorem len64_3 : FC Try.prog 53 [int .u64 8] [] (int .i64 4) [] := by
  refine FC.one (FC.r mix Try.func53 ?_)
  repeat (first | refine And.intro (by kernel_rfl) ?_ | refine And.intro (by decide) ?_)
  refine ⟨(), trivial, .id rfl trivial⟩
set_option maxHeartbeats 3200000 in
set_option maxRecDepth 10000 in
theorem len64_4 : FC Try.prog 53 [int .u64 16] [] (int .i64 5) [] := by
  refine FC.one (FC.r mix Try.func53 ?_)
  repeat (first | refine And.intro (by kernel_rfl) ?_ | refine And.intro (by decide) ?_)
  refine ⟨(), trivial, .id rfl trivial⟩
set_option maxHeartbeats 3200000 in
set_option maxRecDepth 10000 in
theorem len64_5 : FC Try.prog 53 [int .u64 32] [] (int .i64 6) [] := by
  refine FC.one (FC.r mix Try.func53 ?_)
  repeat (first | refine And.intro (by kernel_rfl) ?_ | refine And.intro (by decide) ?_)
  refine ⟨(), trivial, .id rfl trivial⟩
set_option maxHeartbeats 3200000 in
set_option maxRecDepth 10000 in
theorem len64_6 : FC Try.prog 53 [int .u64 64] [] (int .i64 7) [] := by
  refine FC.one (FC.r mix Try.func53 ?_)
  repeat (first | refine And.intro (by kernel_rfl) ?_ | refine And.intro (by decide) ?_)
  refine ⟨(), trivial, .id rfl trivial⟩
set_option maxHeartbeats 3200000 in
set_option maxRecDepth 10000 in
theorem len64_7 : FC Try.prog 53 [int .u64 128] [] (int .i64 8) [] := by
  refine FC.one (FC.r mix Try.func53 ?_)
  repeat (first | refine And.intro (by kernel_rfl) ?_ | refine And.intro (by decide) ?_)
  refine ⟨(), trivial, .id rfl trivial⟩
set_option maxHeartbeats 3200000 in
set_option maxRecDepth 10000 in
theorem len64_8 : FC Try.prog 53 [int .u64 256] [] (int .i64 9) [] := by
  refine FC.one (FC.r mix Try.func53 ?_)
  repeat (first | refine And.intro (by kernel_rfl) ?_ | refine And.intro (by decide) ?_)
  refine ⟨(), trivial, .id rfl trivial⟩
set_option maxHeartbeats 3200000 in
set_option maxRecDepth 10000 in
theorem len64_9 : FC Try.prog 53 [int .u64 512] [] (int .i64 10) [] := by
  refine FC.one (FC.r mix Try.func53 ?_)
  repeat (first | refine And.intro (by kernel_rfl) ?_ | refine And.intro (by decide) ?_)
  refine ⟨(), trivial, .id rfl trivial⟩
set_option maxHeartbeats 3200000 in
set_option maxRecDepth 10000 in
theorem len64_10 : FC Try.prog 53 [int .u64 1024] [] (int .i64 11) [] := by
  refine FC.one (FC.r mix Try.func53 ?_)
  repeat (first | refine And.intro (by kernel_rfl) ?_ | refine And.intro (by decide) ?_)
  refine ⟨(), trivial, .id rfl trivial⟩
set_option maxHeartbeats 3200000 in
set_option maxRecDepth 10000 in
theorem len64_11 : FC Try.prog 53 [int .u64 2048] [] (int .i64 12) [] := by
  refine FC.one (FC.r mix Try.func53 ?_)
  repeat (first | refine And.intro (by kernel_rfl) ?_ | refine And.intro (by decide) ?_)
  refine ⟨(), trivial, .id rfl trivial⟩
set_option maxHeartbeats 3200000 in
set_option maxRecDepth 10000 in
theorem len64_12 : FC Try.prog 53 [int .u64 4096] [] (int .i64 13) [] := by
  refine FC.one (FC.r mix Try.func53 ?_)
  repeat (first | refine And.intro (by kernel_rfl) ?_ | refine And.intro (by decide) ?_)
  refine ⟨(), trivial, .id rfl trivial⟩
set_option maxHeartbeats 3200000 in
set_option maxRecDepth 10000 in
theorem lenW (x r : Int) (h : FC Try.prog 53 [int .u64 x] [] (int .i64 r) []) : FC Try.prog 37 [int .u64 x] [] (int .i64 r) [] := by
  refine FC.one (FC.r mix Try.func37 ?_)
  repeat (first | refine And.intro (by kernel_rfl) ?_ | refine And.intro (by decide) ?_)
  refine FC.u h [] ?_
  repeat (first | refine And.intro (by kernel_rfl) ?_ | refine And.intro (by decide) ?_)
  exact ⟨(), trivial, .id rfl trivial⟩
theorem len_fc (b : Nat) (hb : b ≤ 12) : FC Try.prog 37 [int .u64 ((2 ^ b : Nat) : Int)] [] (int .i64 ((b + 1 : Nat) : Int)) [] := by
  rcases (show b = 0 ∨ b = 1 ∨ b = 2 ∨ b = 3 ∨ b = 4 ∨ b = 5 ∨ b = 6 ∨ b = 7 ∨ b = 8 ∨ b = 9 ∨ b = 10 ∨ b = 11 ∨ b = 12 by omega) with rfl | rfl | rfl | rfl | rfl | rfl | rfl | rfl | rfl | rfl | rfl | rfl | rfl
  · exact lenW 1 1 len64_0
  · exact lenW 2 2 len64_1
  · exact lenW 4 3 len64_2
  · exact lenW 8 4 len64_3
  · exact lenW 16 5 len64_4
  · exact lenW 32 6 len64_5
  · exact lenW 64 7 len64_6
  · exact lenW 128 8 len64_7
  · exact lenW 256 9 len64_8
  · exact lenW 512 10 len64_9
  · exact lenW 1024 11 len64_10
  · exact lenW 2048 12 len64_11
  · exact lenW 4096 13 len64_12
end Go.Sx.T1
namespace Go.Sx.T1
open Go.Proofs Go.Sx.Gf
theorem and_i64 {a b : Nat} (ha : a < 9223372036854775808) (hb : b < 9223372036854775808) : bitI .and .i64 (a : Int) (b : Int) = ((a &&& b : Nat) : Int) := by
  unfold bitI
  simp only [BitVec.toNat_and]
  rw [ofInt_nat, ofInt_nat]
  have e1 : a % 2 ^ IntKind.i64.bits = a := Nat.mod_eq_of_lt (Nat.lt_trans ha (by decide))
  have e2 : b % 2 ^ IntKind.i64.bits = b := Nat.mod_eq_of_lt (Nat.lt_trans hb (by decide))
  have e3 : a &&& b ≤ a := Nat.and_le_left
  rw [e1, e2, wrap64_in (by omega) (by omega)]
theorem or_i64 {a b : Nat} (ha : a < 9223372036854775808) (hb : b < 9223372036854775808) : bitI .or .i64 (a : Int) (b : Int) = ((a ||| b : Nat) : Int) := by
  have h : a ||| b < 2 ^ 63 := Nat.or_lt_two_pow ha hb
  unfold bitI
  simp only [BitVec.toNat_or]
  rw [ofInt_nat, ofInt_nat]
  have e1 : a % 2 ^ IntKind.i64.bits = a := Nat.mod_eq_of_lt (Nat.lt_trans ha (by decide))
  have e2 : b % 2 ^ IntKind.i64.bits = b := Nat.mod_eq_of_lt (Nat.lt_trans hb (by decide))
  rw [e1, e2, wrap64_in (by omega) (by omega)]
theorem toNI {p : Nat} (h : p ≤ 64) : min (p : Int).toNat IntKind.i64.bits = p := by rw [Int.toNat_natCast]; exact Nat.min_eq_left h
theorem shrI (x : Nat) {k : Nat} (hk : k ≤ 64) : (x : Int).fdiv (2 ^ min (k : Int).toNat IntKind.i64.bits) = ((x / 2 ^ k : Nat) : Int) := by
  rw [toNI hk]; exact fdiv_nat x k
/-- the lowest bits of an int -/
theorem maskI {x n : Nat} (hx : x < 9223372036854775808) (hn : n ≤ 12) : bitI .and .i64 (x : Int) (IntKind.i64.wrap (IntKind.i64.wrap (1 * 2 ^ min (n : Int).toNat IntKind.i64.bits) - 1)) = ((x % 2 ^ n : Nat) : Int) := by
  have h1 := pow_small hn
  have h2 := shlI (a := 1) hn (by rw [Nat.one_mul]; omega)
  rw [Nat.one_mul] at h2
  rw [show ((1 : Nat) : Int) = 1 from rfl] at h2
  rw [h2, show IntKind.i64.wrap (((2 ^ n : Nat) : Int) - 1) = ((2 ^ n - 1 : Nat) : Int) by generalize 2 ^ n = P at h1; rw [wrap64_in (by omega) (by omega)]; omega, and_i64 hx (by omega), and_mask]
def suf (s : S6) : Nat → Nat
  | 0 => 0
  | j + 1 => suf s j + wN s (5 - j)
/-- number i of the place with index x -/
def digF (s : S6) (x i : Nat) : Nat := x / 2 ^ suf s (5 - i) % 2 ^ wN s i
def mk6 (f : Nat → Int) : S6 := ⟨f 0, f 1, f 2, f 3, f 4, f 5⟩
theorem mk6_get (f : Nat → Int) {i : Nat} (h : i < 6) : (mk6 f).get i = f i := by
  rcases below6 h with rfl | rfl | rfl | rfl | rfl | rfl <;> rfl
def atS (s : S6) (x : Nat) : S6 := mk6 fun i => ((digF s x i : Nat) : Int)
def zero6 : S6 := ⟨0, 0, 0, 0, 0, 0⟩
def atF (s : S6) (x : Int) : S6 × Int := if shB s = true then (if 0 ≤ x ∧ x < sizeF s then (atS s x.toNat, 0) else (zero6, 2)) else (zero6, 1)
def atT (p : S6 × Int) : SV := .t [.a (s6C p.1), .c (.v (.int .i64 p.2))]
theorem wN_is {s : S6} (h : ShV s) {i : Nat} (hi : i < 6) : s.get i = ((wN s i : Nat) : Int) ∧ wN s i ≤ 12 := by
  have := h.1 i hi
  unfold wN
  omega
structure AX6 where
  j : Nat
  q : S6
set_option maxHeartbeats 3200000 in
set_option maxRecDepth 10000 in
theorem at_fc (s : S6) (x : Int) : ∃ p : S6 × Int, FC Try.prog 18 [s6S s, int .i64 x] [] (atT p) [] ∧ p = atF s x := by
  refine FC.rj mix Try.func18 ?_
  repeat (first | refine And.intro (by kernel_rfl) ?_ | refine And.intro (by decide) ?_)
  refine FC.u (pvalid_is s) [] ?_
  refine bselNot (bsel_intro (fun h1 => ?_) (fun h1 => ?_))
  rotate_left
  · repeat (first | refine And.intro (by kernel_rfl) ?_ | refine And.intro (by decide) ?_)
    exact ⟨(zero6, 1), by rw [atF, h1]; rfl, .id rfl trivial⟩
  have hv := shB_iff.1 h1
  repeat refine AJoin.plain ?_
  refine bselD (fun h2 => ?_) (fun h2 => ?_)
  · repeat (first | refine And.intro (by kernel_rfl) ?_ | refine And.intro (by decide) ?_)
    exact ⟨(zero6, 2), by rw [atF, h1, if_pos rfl, if_neg (by omega)], .id rfl trivial⟩
  refine FC.u (size_fc s) [] ?_
  refine bselD (fun h3 => ?_) (fun h3 => ?_)
  · repeat (first | refine And.intro (by kernel_rfl) ?_ | refine And.intro (by decide) ?_)
    exact ⟨(zero6, 2), by rw [atF, h1, if_pos rfl, if_neg (by omega)], .id rfl trivial⟩
  obtain ⟨n, rfl⟩ : ∃ n : Nat, x = n := ⟨x.toNat, by omega⟩
  have hres : atF s (n : Int) = (atS s n, 0) := by rw [atF, h1, if_pos rfl, if_pos ⟨by omega, by omega⟩, Int.toNat_natCast]
  have hn : n < 9223372036854775808 := by
    have := pow_small (n := bitsN s) (by unfold bitsN; have := hv.2; omega)
    rw [sizeF, h1, if_pos rfl] at h3
    generalize 2 ^ bitsN s = P at this h3
    omega
  repeat refine AJoin.plain ?_
  refine FC.u (widths_fc s) [] ?_
  repeat refine AJoin.plain ?_
  refine ALoop.go (X := AX6) (fun x => x.j ≤ 6 ∧ ∀ i, i < 6 → 6 ≤ i + x.j → x.q.get i = ((digF s n i : Nat) : Int)) (fun x => 6 - x.j) [4, 6, 7] [1, 3] (fun x => [(1, int .i64 ((n / 2 ^ suf s x.j : Nat) : Int)), (8, int .i64 (5 - (x.j : Int)))]) (fun x => [(2, ⟨.box (s6C x.q), true⟩)]) ⟨0, zero6⟩ ⟨Nat.zero_le _, fun i h1 h2 => by simp only at h2; omega⟩ ⟨congrArg (int .i64) (by simp [suf]), rfl, trivial⟩ ⟨.inl rfl, trivial⟩ ?_
  rintro ⟨j, q⟩ ⟨hj, hq⟩
  simp only at hj hq
  dsimp only [headF, headM]
  refine bselD (fun h => ?_) (fun h => ?_)
  · have h' : j < 6 := by omega
    have wj : IntKind.i64.wrap (5 - (j : Int) - 1) = 5 - ((j + 1 : Nat) : Int) := by rw [wrap64_in (by omega) (by omega)]; omega
    have hi5 : 5 - j < 6 := by omega
    obtain ⟨ge, gle⟩ := wN_is hv hi5
    have hnd : n / 2 ^ suf s j < 9223372036854775808 := Nat.lt_of_le_of_lt (Nat.div_le_self _ _) hn
    have keyA : bitI .and .i64 ((n / 2 ^ suf s j : Nat) : Int) (IntKind.i64.wrap (IntKind.i64.wrap (1 * 2 ^ min (s.get (5 - j)).toNat IntKind.i64.bits) - 1)) = ((digF s n (5 - j) : Nat) : Int) := by
      rw [ge, maskI hnd gle, digF, show 5 - (5 - j) = j by omega]
    have keyB : ((n / 2 ^ suf s j : Nat) : Int).fdiv (2 ^ min (s.get (5 - j)).toNat IntKind.i64.bits) = ((n / 2 ^ suf s (j + 1) : Nat) : Int) := by
      rw [ge, shrI _ (by omega), suf, Nat.div_div_eq_div_mul, ← Nat.pow_add]
    have g0 : 0 ≤ s.get (5 - j) := by omega
    have hmu : 6 - (j + 1) < 6 - j := by omega
    have inv : j + 1 ≤ 6 ∧ ∀ i, i < 6 → 6 ≤ i + (j + 1) → (q.set (5 - j) (bitI .and .i64 ((n / 2 ^ suf s j : Nat) : Int) (IntKind.i64.wrap (IntKind.i64.wrap (1 * 2 ^ min (s.get (5 - j)).toNat IntKind.i64.bits) - 1)))).get i = ((digF s n i : Nat) : Int) := by
      refine ⟨h', fun i hi hij => ?_⟩
      rw [get_set hi5 hi]
      by_cases e : i = 5 - j
      · rw [if_pos e, keyA, e]
      · rw [if_neg e]; exact hq i hi (by omega)
    repeat refine AJoin.plain ?_
    rcases below6 h' with rfl | rfl | rfl | rfl | rfl | rfl <;>
    · refine And.intro ⟨by decide, by decide⟩ ?_
      refine And.intro g0 ?_
      refine And.intro ⟨by decide, by decide⟩ ?_
      refine And.intro ⟨by decide, by decide⟩ ?_
      refine And.intro g0 ?_
      repeat (first | refine And.intro (by kernel_rfl) ?_ | refine And.intro (by decide) ?_)
      exact ⟨⟨_, _⟩, ⟨inv, hmu⟩, .id ⟨congrArg (int .i64) keyB, congrArg (int .i64) wj, trivial⟩ rfl ⟨.inl rfl, trivial⟩ rfl⟩
  · obtain rfl : j = 6 := by omega
    have hqe : q = atS s n := by
      have e0 := hq 0 (by omega) (by omega); have e1 := hq 1 (by omega) (by omega); have e2 := hq 2 (by omega) (by omega); have e3 := hq 3 (by omega) (by omega); have e4 := hq 4 (by omega) (by omega); have e5 := hq 5 (by omega) (by omega)
      obtain ⟨a, b, c, d, e, f⟩ := q
      simp only [S6.get] at e0 e1 e2 e3 e4 e5
      subst e0 e1 e2 e3 e4 e5
      rfl
    subst hqe
    repeat (first | refine And.intro (by kernel_rfl) ?_ | refine And.intro (by decide) ?_)
    refine FC.u (place_fc (atS s n)) [] ?_
    repeat (first | refine And.intro (by kernel_rfl) ?_ | refine And.intro (by decide) ?_)
    exact ⟨(atS s n, 0), hres.symm, .id rfl trivial⟩
/-! ValidPlace, Index -/
def vpB (s p : S6) : Bool := shB s && (List.range 6).all fun j => decide (0 ≤ p.get j) && decide (p.get j < ((2 ^ wN s j : Nat) : Int))
theorem vpB_iff {s p : S6} : vpB s p = true ↔ ShV s ∧ ∀ j, j < 6 → 0 ≤ p.get j ∧ p.get j < ((2 ^ wN s j : Nat) : Int) := by
  simp only [vpB, Bool.and_eq_true, shB_iff, List.all_eq_true, List.mem_range, decide_eq_true_eq]
/-- no bit beyond -/
theorem fdiv_zero {x : Int} {w : Nat} (hx : 0 ≤ x) (hw : w ≤ 12) : x.fdiv (2 ^ min ((w : Nat) : Int).toNat IntKind.i64.bits) = 0 ↔ x < ((2 ^ w : Nat) : Int) := by
  obtain ⟨n, rfl⟩ : ∃ n : Nat, x = n := ⟨x.toNat, by omega⟩
  have hp := Nat.two_pow_pos w
  rw [shrI n (by omega)]
  constructor
  · intro h
    have : n / 2 ^ w = 0 := by omega
    have := (Nat.div_eq_zero_iff_lt hp).1 this
    exact Int.ofNat_lt.2 this
  · intro h
    have : n < 2 ^ w := Int.ofNat_lt.1 h
    rw [Nat.div_eq_of_lt this]; rfl
set_option maxHeartbeats 3200000 in
set_option maxRecDepth 10000 in
theorem validPlace_fc (s p : S6) : FC Try.prog 50 [s6S s, s6S p] [] (boo (vpB s p)) [] := by
  refine FC.one (FC.rj mix Try.func50 ?_)
  repeat (first | refine And.intro (by kernel_rfl) ?_ | refine And.intro (by decide) ?_)
  refine FC.u (pvalid_is s) [] ?_
  refine bselNot (bsel_intro (fun h1 => ?_) (fun h1 => ?_))
  rotate_left
  · repeat (first | refine And.intro (by kernel_rfl) ?_ | refine And.intro (by decide) ?_)
    exact ⟨(), trivial, .id (congrArg boo (by rw [vpB, h1]; rfl)) trivial⟩
  have hv := shB_iff.1 h1
  repeat refine AJoin.plain ?_
  refine FC.u (widths_fc s) [] ?_
  repeat refine AJoin.plain ?_
  refine FC.u (numbers_fc p) [] ?_
  refine ALoop.go (X := Nat) (fun i => i ≤ 6 ∧ ∀ j, j < i → 0 ≤ p.get j ∧ p.get j < ((2 ^ wN s j : Nat) : Int)) (fun i => 6 - i) [5, 14] [2] (fun i => [(15, int .i64 i)]) (fun _ => []) 0 ⟨Nat.zero_le _, fun j h => by omega⟩ ⟨rfl, trivial⟩ trivial ?_
  rintro i ⟨hi, ha⟩
  dsimp only [headF, headM]
  refine bselD (fun h => ?_) (fun h => ?_)
  · have h' : i < 6 := by omega
    have wi : IntKind.i64.wrap ((i : Int) + 1) = ((i + 1 : Nat) : Int) := wrap64_in (by omega) (by omega)
    obtain ⟨ge, gle⟩ := wN_is hv h'
    have g0 : 0 ≤ s.get i := by omega
    have fz : 0 ≤ p.get i → ((p.get i).fdiv (2 ^ min (s.get i).toNat IntKind.i64.bits) = 0 ↔ p.get i < ((2 ^ wN s i : Nat) : Int)) := fun h0 => by rw [ge]; exact fdiv_zero h0 gle
    have bad : ¬ (0 ≤ p.get i ∧ p.get i < ((2 ^ wN s i : Nat) : Int)) → vpB s p = false := fun hb => by
      cases hvp : vpB s p with
      | false => rfl
      | true => exact absurd ((vpB_iff.1 hvp).2 i h') hb
    have nxt : 0 ≤ p.get i ∧ p.get i < ((2 ^ wN s i : Nat) : Int) → i + 1 ≤ 6 ∧ ∀ j, j < i + 1 → 0 ≤ p.get j ∧ p.get j < ((2 ^ wN s j : Nat) : Int) := fun hb => ⟨h', fun j hj => by
      rcases Nat.lt_or_ge j i with h1 | h1
      · exact ha j h1
      · obtain rfl : j = i := by omega
        exact hb⟩
    repeat refine AJoin.plain ?_
    rcases below6 h' with rfl | rfl | rfl | rfl | rfl | rfl <;>
    · refine And.intro ⟨by decide, by decide⟩ ?_
      refine bselD (fun c1 => ?_) (fun c1 => ?_)
      · repeat (first | refine And.intro (by kernel_rfl) ?_ | refine And.intro (by decide) ?_)
        exact ⟨(), trivial, .id (congrArg boo (bad fun hb => absurd hb.1 (Int.not_le.2 c1)).symm) trivial⟩
      refine And.intro ⟨by decide, by decide⟩ ?_
      refine And.intro g0 ?_
      refine bselN (fun c2 => ?_) (fun c2 => ?_)
      · repeat (first | refine And.intro (by kernel_rfl) ?_ | refine And.intro (by decide) ?_)
        exact ⟨(), trivial, .id (congrArg boo (bad fun hb => c2 ((fz hb.1).2 hb.2)).symm) trivial⟩
      · repeat refine AJoin.plain ?_
        exact ⟨_, ⟨nxt ⟨Int.not_lt.1 c1, (fz (Int.not_lt.1 c1)).1 c2⟩, by decide⟩, .id ⟨congrArg (int .i64) wi, trivial⟩ rfl trivial rfl⟩
  · obtain rfl : i = 6 := by omega
    repeat (first | refine And.intro (by kernel_rfl) ?_ | refine And.intro (by decide) ?_)
    exact ⟨(), trivial, .id (congrArg boo (vpB_iff.2 ⟨hv, ha⟩).symm) trivial⟩
end Go.Sx.T1
namespace Go.Sx.T1
open Go.Proofs Go.Sx.Gf
/-- the index of a place, by its first j numbers -/
def ixN (s p : S6) : Nat → Nat
  | 0 => 0
  | j + 1 => ixN s p j * 2 ^ wN s j + (p.get j).toNat
def preN (s : S6) : Nat → Nat
  | 0 => 0
  | j + 1 => preN s j + wN s j
def ixF (s p : S6) : Int × Int := if shB s = true then (if vpB s p = true then (((ixN s p 6 : Nat) : Int), 0) else (0, 2)) else (0, 1)
theorem pre_sum {s : S6} (h : ShV s) : ∀ i, i ≤ 6 → ((preN s i : Nat) : Int) = sumTo s i
  | 0, _ => by simp [preN, sumTo]
  | i + 1, hi => by
    have g := (wN_is h (show i < 6 by omega)).1
    have := pre_sum h i (by omega)
    simp only [preN, sumTo, Int.natCast_add, this, g]
theorem pre_le {s : S6} (h : ShV s) {i : Nat} (hi : i ≤ 6) : preN s i ≤ 12 := by
  have h1 := pre_sum h i hi
  have h2 := sum_nat h i hi
  have := h.2
  omega
theorem ix_lt {s p : S6} (hp : ∀ j, j < 6 → 0 ≤ p.get j ∧ p.get j < ((2 ^ wN s j : Nat) : Int)) : ∀ i, i ≤ 6 → ixN s p i < 2 ^ preN s i
  | 0, _ => by simp [ixN, preN]
  | i + 1, hi => by
    have h1 := ix_lt hp i (by omega)
    have h2 := hp i (by omega)
    have h3 : (p.get i).toNat < 2 ^ wN s i := by omega
    simp only [ixN, preN, Nat.pow_add]
    calc ixN s p i * 2 ^ wN s i + (p.get i).toNat < ixN s p i * 2 ^ wN s i + 2 ^ wN s i := by omega
      _ = (ixN s p i + 1) * 2 ^ wN s i := by rw [Nat.succ_mul]
      _ ≤ 2 ^ preN s i * 2 ^ wN s i := Nat.mul_le_mul_right _ h1
/-- shift and or -/
theorem shl_or {a n w : Nat} (hw : w ≤ 12) (hn : n < 2 ^ w) (h : a * 2 ^ w + n < 9223372036854775808) : bitI .or .i64 (IntKind.i64.wrap ((a : Int) * 2 ^ min (w : Int).toNat IntKind.i64.bits)) (n : Int) = ((a * 2 ^ w + n : Nat) : Int) := by
  rw [shlI hw (by omega), or_i64 (by omega) (by omega), Nat.mul_comm, Nat.two_pow_add_eq_or_of_lt hn]
set_option maxHeartbeats 3200000 in
set_option maxRecDepth 10000 in
theorem index_fc (s p : S6) : ∃ r : Int × Int, FC Try.prog 36 [s6S s, s6S p] [] (.t [.c (.v (.int .i64 r.1)), .c (.v (.int .i64 r.2))]) [] ∧ r = ixF s p := by
  refine FC.rj mix Try.func36 ?_
  repeat (first | refine And.intro (by kernel_rfl) ?_ | refine And.intro (by decide) ?_)
  refine FC.u (pvalid_is s) [] ?_
  refine bselNot (bsel_intro (fun h1 => ?_) (fun h1 => ?_))
  rotate_left
  · repeat (first | refine And.intro (by kernel_rfl) ?_ | refine And.intro (by decide) ?_)
    exact ⟨(0, 1), by rw [ixF, h1]; rfl, .id rfl trivial⟩
  have hv := shB_iff.1 h1
  repeat refine AJoin.plain ?_
  refine FC.u (validPlace_fc s p) [] ?_
  refine bselNot (bsel_intro (fun h2 => ?_) (fun h2 => ?_))
  rotate_left
  · repeat (first | refine And.intro (by kernel_rfl) ?_ | refine And.intro (by decide) ?_)
    exact ⟨(0, 2), by rw [ixF, h1, h2]; rfl, .id rfl trivial⟩
  have hp := (vpB_iff.1 h2).2
  repeat refine AJoin.plain ?_
  refine FC.u (widths_fc s) [] ?_
  repeat refine AJoin.plain ?_
  refine FC.u (numbers_fc p) [] ?_
  refine ALoop.go (X := Nat) (fun i => i ≤ 6) (fun i => 6 - i) [7, 22] [2] (fun i => [(6, int .i64 ((ixN s p i : Nat) : Int)), (23, int .i64 i)]) (fun _ => []) 0 (Nat.zero_le _) ⟨rfl, rfl, trivial⟩ trivial ?_
  intro i hi
  dsimp only [headF, headM]
  refine bselD (fun h => ?_) (fun h => ?_)
  · have h' : i < 6 := by omega
    have wi : IntKind.i64.wrap ((i : Int) + 1) = ((i + 1 : Nat) : Int) := wrap64_in (by omega) (by omega)
    obtain ⟨ge, gle⟩ := wN_is hv h'
    have g0 : 0 ≤ s.get i := by omega
    have hpi := hp i h'
    have hb : ixN s p (i + 1) < 9223372036854775808 := by
      have h1 := ix_lt hp (i + 1) (by omega)
      have h2 := (pow_small (pre_le hv (show i + 1 ≤ 6 by omega))).2
      omega
    have key : bitI .or .i64 (IntKind.i64.wrap (((ixN s p i : Nat) : Int) * 2 ^ min (s.get i).toNat IntKind.i64.bits)) (p.get i) = ((ixN s p (i + 1) : Nat) : Int) := by
      have e : p.get i = (((p.get i).toNat : Nat) : Int) := by omega
      rw [ge, e, shl_or gle (by omega) hb]
      rfl
    have hmu : 6 - (i + 1) < 6 - i := by omega
    repeat refine AJoin.plain ?_
    rcases below6 h' with rfl | rfl | rfl | rfl | rfl | rfl <;>
    · refine And.intro ⟨by decide, by decide⟩ ?_
      refine And.intro ⟨by decide, by decide⟩ ?_
      refine And.intro g0 ?_
      repeat (first | refine And.intro (by kernel_rfl) ?_ | refine And.intro (by decide) ?_)
      exact ⟨_, ⟨h', hmu⟩, .id ⟨congrArg (int .i64) key, congrArg (int .i64) wi, trivial⟩ rfl trivial rfl⟩
  · obtain rfl : i = 6 := by omega
    repeat (first | refine And.intro (by kernel_rfl) ?_ | refine And.intro (by decide) ?_)
    exact ⟨_, by rw [ixF, h1, h2, if_pos rfl, if_pos rfl], .id rfl trivial⟩
/-! Check, normal -/
structure MapN where
  s : S6
  N : List Nat
  lo : Int
  hi : Int
def nC (m : MapN) (n : Nat) : List C := [.v (.int .i64 m.s.a), .v (.int .i64 m.s.b), .v (.int .i64 m.s.c), .v (.int .i64 m.s.d), .v (.int .i64 m.s.e), .v (.int .i64 m.s.f), .s n 0 m.N.length 1, .v (.int .i64 m.lo), .v (.int .i64 m.hi)]
def nS (m : MapN) (n : Nat) : SV := .o (.a (nC m n))
def nM (m : MapN) : Mem := [u64n m.N false]
def mcF (m : MapN) : Int :=
  if shB m.s = false then 1
  else if m.N.length ≠ bitsN m.s then 7
  else if checkF m.N ≠ 0 then checkF m.N
  else if m.lo < 0 ∨ m.lo > m.hi ∨ m.hi > 1048576 ∨ m.lo > sizeF m.s ∨ m.hi - m.lo + sizeF m.s > 1048576 then 2 else 0
theorem size_is {s : S6} (h : shB s = true) : sizeF s = ((2 ^ bitsN s : Nat) : Int) ∧ bitsN s ≤ 12 := by
  have hv := shB_iff.1 h
  refine ⟨by rw [sizeF, h, if_pos rfl], ?_⟩
  have := hv.2
  unfold bitsN
  omega
set_option maxHeartbeats 3200000 in
set_option maxRecDepth 10000 in
theorem mcheck_fc (m : MapN) (hl : m.N.length ≤ 140737488351232) (hr : ∀ k, m.N.getD k 0 < 18446744073709551616) : FC Try.prog 20 [nS m 0] (nM m) (int .i64 (mcF m)) (nM m) := by
  refine FC.one (FC.rj mix Try.func20 ?_)
  repeat (first | refine And.intro (by kernel_rfl) ?_ | refine And.intro (by decide) ?_)
  refine FC.u (pvalid_is m.s) [] ?_
  refine bselNot (bsel_intro (fun h1 => ?_) (fun h1 => ?_))
  rotate_left
  · repeat (first | refine And.intro (by kernel_rfl) ?_ | refine And.intro (by decide) ?_)
    exact ⟨(), trivial, .id (congrArg (int .i64) (by rw [mcF, h1, if_pos rfl])) ⟨.inl rfl, trivial⟩⟩
  obtain ⟨hs, hb⟩ := size_is h1
  have hp := pow_small hb
  have hl' := len_fc (bitsN m.s) hb
  repeat refine AJoin.plain ?_
  refine FC.u (size_fc m.s) [] ?_
  conv => whnf
  have w1 : IntKind.u64.wrap (sizeF m.s) = ((2 ^ bitsN m.s : Nat) : Int) := by rw [hs]; generalize 2 ^ bitsN m.s = P at hp; exact wrapU64_in (by omega) (by omega)
  have w2 : IntKind.i64.wrap (((bitsN m.s + 1 : Nat) : Int) - 1) = ((bitsN m.s : Nat) : Int) := by rw [wrap64_in (by omega) (by omega)]; omega
  rw [w1]
  refine FC.u hl' [] ?_
  conv => whnf
  rw [w2]
  repeat (first | refine And.intro (by kernel_rfl) ?_ | refine And.intro (by decide) ?_)
  refine bselN (fun h2 => ?_) (fun h2 => ?_)
  · repeat (first | refine And.intro (by kernel_rfl) ?_ | refine And.intro (by decide) ?_)
    exact ⟨(), trivial, .id (congrArg (int .i64) (by rw [mcF, if_neg (by simp [h1]), if_pos (by omega)])) ⟨.inl rfl, trivial⟩⟩
  have e1 : mcF m = (if checkF m.N ≠ 0 then checkF m.N
    else if m.lo < 0 ∨ m.lo > m.hi ∨ m.hi > 1048576 ∨ m.lo > sizeF m.s ∨ m.hi - m.lo + sizeF m.s > 1048576 then 2 else 0) := by rw [mcF, if_neg (by simp [h1]), if_neg (by omega)]
  repeat refine AJoin.plain ?_
  refine FC.u (check10_fc m.N hl hr) [0] ?_
  refine bselN (fun h3 => ?_) (fun h3 => ?_)
  · repeat (first | refine And.intro (by kernel_rfl) ?_ | refine And.intro (by decide) ?_)
    exact ⟨(), trivial, .id (congrArg (int .i64) (by rw [e1, if_pos h3])) ⟨.inl rfl, trivial⟩⟩
  rw [if_neg (fun h => h h3)] at e1
  have bad : (m.lo < 0 ∨ m.lo > m.hi ∨ m.hi > 1048576 ∨ m.lo > sizeF m.s ∨ m.hi - m.lo + sizeF m.s > 1048576) → int .i64 2 = int .i64 (mcF m) := fun h => by rw [e1, if_pos h]
  repeat refine AJoin.plain ?_
  refine bselD (fun c1 => ?_) (fun c1 => ?_)
  · repeat (first | refine And.intro (by kernel_rfl) ?_ | refine And.intro (by decide) ?_)
    exact ⟨(), trivial, .id (bad (.inl c1)) ⟨.inl rfl, trivial⟩⟩
  refine bselD (fun c2 => ?_) (fun c2 => ?_)
  · repeat (first | refine And.intro (by kernel_rfl) ?_ | refine And.intro (by decide) ?_)
    exact ⟨(), trivial, .id (bad (.inr (.inl c2))) ⟨.inl rfl, trivial⟩⟩
  refine bselD (fun c3 => ?_) (fun c3 => ?_)
  · repeat (first | refine And.intro (by kernel_rfl) ?_ | refine And.intro (by decide) ?_)
    exact ⟨(), trivial, .id (bad (.inr (.inr (.inl c3)))) ⟨.inl rfl, trivial⟩⟩
  refine bselD (fun c4 => ?_) (fun c4 => ?_)
  · repeat (first | refine And.intro (by kernel_rfl) ?_ | refine And.intro (by decide) ?_)
    exact ⟨(), trivial, .id (bad (.inr (.inr (.inr (.inl c4))))) ⟨.inl rfl, trivial⟩⟩
  have w3 : IntKind.i64.wrap (IntKind.i64.wrap (m.hi - m.lo) + sizeF m.s) = m.hi - m.lo + sizeF m.s := by
    rw [hs]; generalize 2 ^ bitsN m.s = P at hp
    have w0 : IntKind.i64.wrap (m.hi - m.lo) = m.hi - m.lo := wrap64_in (by omega) (by omega)
    rw [w0, wrap64_in (by omega) (by omega)]
  refine bselD (fun c5 => ?_) (fun c5 => ?_)
  · repeat (first | refine And.intro (by kernel_rfl) ?_ | refine And.intro (by decide) ?_)
    exact ⟨(), trivial, .id (bad (.inr (.inr (.inr (.inr (by rw [← w3]; exact c5)))))) ⟨.inl rfl, trivial⟩⟩
  · rw [w3] at c5
    repeat (first | refine And.intro (by kernel_rfl) ?_ | refine And.intro (by decide) ?_)
    exact ⟨(), trivial, .id (congrArg (int .i64) (by rw [e1, if_neg (by omega)])) ⟨.inl rfl, trivial⟩⟩
def normF (m : MapN) (x : Int) : Int × Bool :=
  if x < 0 then (0, false) else if x < m.lo then (x, true) else if x < m.hi then (0, false) else (x - (m.hi - m.lo), decide (x - (m.hi - m.lo) < sizeF m.s))
structure McOk (m : MapN) : Prop where
  sh : shB m.s = true
  len : m.N.length = bitsN m.s
  ck : checkF m.N = 0
  lo : 0 ≤ m.lo ∧ m.lo ≤ sizeF m.s
  hi : m.lo ≤ m.hi ∧ m.hi ≤ 1048576
  fit : m.hi - m.lo + sizeF m.s ≤ 1048576
theorem mc_iff (m : MapN) : mcF m = 0 ↔ McOk m := by
  unfold mcF
  constructor
  · intro h
    split at h
    · exact absurd h (by decide)
    · split at h
      · exact absurd h (by decide)
      · split at h
        · exact absurd h (by assumption)
        · split at h
          · exact absurd h (by decide)
          · rename_i a b c d
            refine ⟨by simpa using a, by simpa using b, by simpa using c, ?_, ?_, ?_⟩ <;> omega
  · rintro ⟨h1, h2, h3, h4, h5, h6⟩
    rw [if_neg (by simp [h1]), if_neg (by simp [h2]), if_neg (by simp [h3]), if_neg (by omega)]
set_option maxHeartbeats 3200000 in
set_option maxRecDepth 10000 in
theorem normal_fc (m : MapN) (x : Int) (ok : McOk m) (hx : x ≤ 9223372036854775807) : ∃ r : Int × Bool, FC Try.prog 32 [nS m 0, int .i64 x] (nM m) (.t [.c (.v (.int .i64 r.1)), .c (.v (.bool r.2))]) (nM m) ∧ r = normF m x := by
  obtain ⟨hs, hb⟩ := size_is ok.sh
  have hp := pow_small hb
  have hlo := ok.lo
  have hhi := ok.hi
  have w1 : IntKind.i64.wrap (m.hi - m.lo) = m.hi - m.lo := wrap64_in (by omega) (by omega)
  refine FC.rj mix Try.func32 ?_
  repeat (first | refine And.intro (by kernel_rfl) ?_ | refine And.intro (by decide) ?_)
  refine bselD (fun c1 => ?_) (fun c1 => ?_)
  · repeat (first | refine And.intro (by kernel_rfl) ?_ | refine And.intro (by decide) ?_)
    exact ⟨(0, false), by rw [normF, if_pos c1], .id rfl ⟨.inl rfl, trivial⟩⟩
  repeat (first | refine And.intro (by kernel_rfl) ?_ | refine And.intro (by decide) ?_)
  refine bselD (fun c2 => ?_) (fun c2 => ?_)
  · repeat (first | refine And.intro (by kernel_rfl) ?_ | refine And.intro (by decide) ?_)
    exact ⟨(x, true), by rw [normF, if_neg c1, if_pos c2], .id rfl ⟨.inl rfl, trivial⟩⟩
  repeat (first | refine And.intro (by kernel_rfl) ?_ | refine And.intro (by decide) ?_)
  refine bselD (fun c3 => ?_) (fun c3 => ?_)
  · repeat (first | refine And.intro (by kernel_rfl) ?_ | refine And.intro (by decide) ?_)
    exact ⟨(0, false), by rw [normF, if_neg c1, if_neg c2, if_pos c3], .id rfl ⟨.inl rfl, trivial⟩⟩
  have w2 : IntKind.i64.wrap (x - IntKind.i64.wrap (m.hi - m.lo)) = x - (m.hi - m.lo) := by rw [w1, wrap64_in (by omega) (by omega)]
  repeat (first | refine And.intro (by kernel_rfl) ?_ | refine And.intro (by decide) ?_)
  refine FC.u (size_fc m.s) [] ?_
  repeat (first | refine And.intro (by kernel_rfl) ?_ | refine And.intro (by decide) ?_)
  exact ⟨(x - (m.hi - m.lo), decide (x - (m.hi - m.lo) < sizeF m.s)), by rw [normF, if_neg c1, if_neg c2, if_neg c3], .id (by show SV.t [.c (.v (.int .i64 (IntKind.i64.wrap (x - IntKind.i64.wrap (m.hi - m.lo))))), .c (.v (.bool (decide (IntKind.i64.wrap (x - IntKind.i64.wrap (m.hi - m.lo)) < sizeF m.s))))] = _; rw [w2]) ⟨.inl rfl, trivial⟩⟩
end Go.Sx.T1
namespace Go.Sx.T1
open Go.Proofs Go.Sx.Gf
/-! the reference of layer 9 -/
theorem rvalid_is (s : S6) : FC Try.prog 39 [s6S s] [] (boo (shB s)) [] := by
  obtain ⟨b, h, e⟩ := rvalid_fc s
  have : b = shB s := by rw [Bool.eq_iff_iff, e, shB_iff]
  rw [← this]; exact h
set_option maxHeartbeats 3200000 in
set_option maxRecDepth 10000 in
theorem rnumbers_fc (s : S6) : FC Try.prog 74 [s6S s] [] (s6S s) [] := by
  refine FC.one (FC.r mix Try.func74 ?_)
  repeat (first | refine And.intro (by kernel_rfl) ?_ | refine And.intro (by decide) ?_)
  exact ⟨(), trivial, .id rfl trivial⟩
set_option maxHeartbeats 3200000 in
set_option maxRecDepth 10000 in
theorem rbits_fc (s : S6) (hv : ShV s) : FC Try.prog 40 [s6S s] [] (int .i64 ((bitsN s : Nat) : Int)) [] := by
  have hb : ((bitsN s : Nat) : Int) = sumTo s 6 := by have := sum_nat hv 6 (by omega); unfold bitsN; omega
  rw [hb]
  refine FC.one (FC.rj mix Try.func40 ?_)
  repeat (first | refine And.intro (by kernel_rfl) ?_ | refine And.intro (by decide) ?_)
  refine FC.u (bits_fc s) [] ?_
  refine ALoop.go (X := Nat) (fun i => i ≤ 6) (fun i => 6 - i) [3] [1] (fun i => [(4, int .i64 (sumTo s i)), (5, int .i64 i)]) (fun _ => []) 0 (Nat.zero_le _) ⟨rfl, rfl, trivial⟩ trivial ?_
  intro i hi
  dsimp only [headF, headM]
  refine bselD (fun h => ?_) (fun h => ?_)
  · have h' : i < 6 := by omega
    have wi : IntKind.i64.wrap ((i : Int) + 1) = ((i + 1 : Nat) : Int) := wrap64_in (by omega) (by omega)
    have b1 := sum_nat hv i (by omega)
    have b2 := sum_nat hv (i + 1) (by omega)
    have b3 := hv.2
    have key : IntKind.i64.wrap (sumTo s i + s.get i) = sumTo s (i + 1) := by
      have e : sumTo s (i + 1) = sumTo s i + s.get i := rfl
      rw [e] at b2 ⊢
      exact wrap64_in (by omega) (by omega)
    have hmu : 6 - (i + 1) < 6 - i := by omega
    repeat refine AJoin.plain ?_
    rcases below6 h' with rfl | rfl | rfl | rfl | rfl | rfl <;>
    · refine And.intro ⟨by decide, by decide⟩ ?_
      repeat (first | refine And.intro (by kernel_rfl) ?_ | refine And.intro (by decide) ?_)
      exact ⟨_, ⟨h', hmu⟩, .id ⟨congrArg (int .i64) key, congrArg (int .i64) wi, trivial⟩ rfl trivial rfl⟩
  · obtain rfl : i = 6 := by omega
    repeat (first | refine And.intro (by kernel_rfl) ?_ | refine And.intro (by decide) ?_)
    exact ⟨(), trivial, .id rfl trivial⟩
set_option maxHeartbeats 3200000 in
set_option maxRecDepth 10000 in
theorem rsize_fc (s : S6) : FC Try.prog 23 [s6S s] [] (int .i64 (sizeF s)) [] := by
  refine FC.one (FC.rj mix Try.func23 ?_)
  repeat (first | refine And.intro (by kernel_rfl) ?_ | refine And.intro (by decide) ?_)
  refine FC.u (rvalid_is s) [] ?_
  refine bselNot (bsel_intro (fun h1 => ?_) (fun h1 => ?_))
  rotate_left
  · repeat (first | refine And.intro (by kernel_rfl) ?_ | refine And.intro (by decide) ?_)
    exact ⟨(), trivial, .id (congrArg (int .i64) (by rw [sizeF, h1]; rfl)) trivial⟩
  obtain ⟨hs, hb⟩ := size_is h1
  obtain ⟨p1, p2, p3⟩ := pow_i64 (bitsN s) hb
  repeat refine AJoin.plain ?_
  refine FC.u (rbits_fc s (shB_iff.1 h1)) [] ?_
  refine And.intro (by show 0 ≤ IntKind.u64.wrap ((bitsN s : Nat) : Int); rw [wrapU64_in (by omega) (by omega)]; omega) ?_
  repeat (first | refine And.intro (by kernel_rfl) ?_ | refine And.intro (by decide) ?_)
  exact ⟨(), trivial, .id (congrArg (int .i64) (by rw [p1, hs])) trivial⟩
theorem wid_pow {s : S6} (hv : ShV s) {i : Nat} (hi : i < 6) : IntKind.i64.wrap (1 * 2 ^ min (IntKind.u64.wrap (s.get i)).toNat IntKind.i64.bits) = ((2 ^ wN s i : Nat) : Int) ∧ 0 ≤ IntKind.u64.wrap (s.get i) := by
  obtain ⟨ge, gle⟩ := wN_is hv hi
  rw [ge]
  refine ⟨(pow_i64 (wN s i) gle).1, ?_⟩
  rw [wrapU64_in (by omega) (by omega)]; omega
set_option maxHeartbeats 3200000 in
set_option maxRecDepth 10000 in
theorem rvalidPlace_fc (s p : S6) : FC Try.prog 73 [s6S s, s6S p] [] (boo (vpB s p)) [] := by
  refine FC.one (FC.rj mix Try.func73 ?_)
  repeat (first | refine And.intro (by kernel_rfl) ?_ | refine And.intro (by decide) ?_)
  refine FC.u (rvalid_is s) [] ?_
  refine bselNot (bsel_intro (fun h1 => ?_) (fun h1 => ?_))
  rotate_left
  · repeat (first | refine And.intro (by kernel_rfl) ?_ | refine And.intro (by decide) ?_)
    exact ⟨(), trivial, .id (congrArg boo (by rw [vpB, h1]; rfl)) trivial⟩
  have hv := shB_iff.1 h1
  repeat refine AJoin.plain ?_
  refine FC.u (bits_fc s) [] ?_
  repeat refine AJoin.plain ?_
  refine FC.u (rnumbers_fc p) [] ?_
  repeat (first | refine And.intro (by kernel_rfl) ?_ | refine And.intro (by decide) ?_)
  refine ALoop.go (X := Nat) (fun i => i ≤ 6 ∧ ∀ j, j < i → 0 ≤ p.get j ∧ p.get j < ((2 ^ wN s j : Nat) : Int)) (fun i => 6 - i) [5, 6] [2, 3] (fun i => [(7, int .i64 i)]) (fun _ => []) 0 ⟨Nat.zero_le _, fun j h => by omega⟩ ⟨rfl, trivial⟩ trivial ?_
  rintro i ⟨hi, ha⟩
  dsimp only [headF, headM]
  refine bselD (fun h => ?_) (fun h => ?_)
  · have h' : i < 6 := by omega
    have wi : IntKind.i64.wrap ((i : Int) + 1) = ((i + 1 : Nat) : Int) := wrap64_in (by omega) (by omega)
    obtain ⟨wp, wu⟩ := wid_pow hv h'
    have bad : ¬ (0 ≤ p.get i ∧ p.get i < ((2 ^ wN s i : Nat) : Int)) → vpB s p = false := fun hb => by
      cases hvp : vpB s p with
      | false => rfl
      | true => exact absurd ((vpB_iff.1 hvp).2 i h') hb
    have nxt : 0 ≤ p.get i ∧ p.get i < ((2 ^ wN s i : Nat) : Int) → i + 1 ≤ 6 ∧ ∀ j, j < i + 1 → 0 ≤ p.get j ∧ p.get j < ((2 ^ wN s j : Nat) : Int) := fun hb => ⟨h', fun j hj => by
      rcases Nat.lt_or_ge j i with h1 | h1
      · exact ha j h1
      · obtain rfl : j = i := by omega
        exact hb⟩
    repeat refine AJoin.plain ?_
    rcases below6 h' with rfl | rfl | rfl | rfl | rfl | rfl <;>
    · refine And.intro ⟨by decide, by decide⟩ ?_
      refine bselD (fun c1 => ?_) (fun c1 => ?_)
      · repeat (first | refine And.intro (by kernel_rfl) ?_ | refine And.intro (by decide) ?_)
        exact ⟨(), trivial, .id (congrArg boo (bad fun hb => absurd hb.1 (Int.not_le.2 c1)).symm) trivial⟩
      refine And.intro ⟨by decide, by decide⟩ ?_
      refine And.intro ⟨by decide, by decide⟩ ?_
      refine And.intro wu ?_
      repeat (first | refine And.intro (by kernel_rfl) ?_ | refine And.intro (by decide) ?_)
      refine bselD (fun c2 => ?_) (fun c2 => ?_)
      · repeat (first | refine And.intro (by kernel_rfl) ?_ | refine And.intro (by decide) ?_)
        exact ⟨(), trivial, .id (congrArg boo (bad fun hb => absurd (wp ▸ c2) (Int.not_le.2 hb.2)).symm) trivial⟩
      · repeat refine AJoin.plain ?_
        exact ⟨_, ⟨nxt ⟨Int.not_lt.1 c1, Int.not_le.1 (wp ▸ c2)⟩, by decide⟩, .id ⟨congrArg (int .i64) wi, trivial⟩ rfl trivial rfl⟩
  · obtain rfl : i = 6 := by omega
    repeat (first | refine And.intro (by kernel_rfl) ?_ | refine And.intro (by decide) ?_)
    exact ⟨(), trivial, .id (congrArg boo (vpB_iff.2 ⟨hv, ha⟩).symm) trivial⟩
set_option maxHeartbeats 3200000 in
set_option maxRecDepth 10000 in
theorem rindex_fc (s p : S6) : ∃ r : Int × Int, FC Try.prog 63 [s6S s, s6S p] [] (.t [.c (.v (.int .i64 r.1)), .c (.v (.int .i64 r.2))]) [] ∧ r = ixF s p := by
  refine FC.rj mix Try.func63 ?_
  repeat (first | refine And.intro (by kernel_rfl) ?_ | refine And.intro (by decide) ?_)
  refine FC.u (rvalid_is s) [] ?_
  refine bselNot (bsel_intro (fun h1 => ?_) (fun h1 => ?_))
  rotate_left
  · repeat (first | refine And.intro (by kernel_rfl) ?_ | refine And.intro (by decide) ?_)
    exact ⟨(0, 1), by rw [ixF, h1]; rfl, .id rfl trivial⟩
  have hv := shB_iff.1 h1
  repeat refine AJoin.plain ?_
  refine FC.u (rvalidPlace_fc s p) [] ?_
  refine bselNot (bsel_intro (fun h2 => ?_) (fun h2 => ?_))
  rotate_left
  · repeat (first | refine And.intro (by kernel_rfl) ?_ | refine And.intro (by decide) ?_)
    exact ⟨(0, 2), by rw [ixF, h1, h2]; rfl, .id rfl trivial⟩
  have hp := (vpB_iff.1 h2).2
  repeat refine AJoin.plain ?_
  refine FC.u (bits_fc s) [] ?_
  repeat refine AJoin.plain ?_
  refine FC.u (rnumbers_fc p) [] ?_
  repeat (first | refine And.intro (by kernel_rfl) ?_ | refine And.intro (by decide) ?_)
  refine ALoop.go (X := Nat) (fun i => i ≤ 6) (fun i => 6 - i) [6, 7] [2, 3] (fun i => [(8, int .i64 ((ixN s p i : Nat) : Int)), (9, int .i64 i)]) (fun _ => []) 0 (Nat.zero_le _) ⟨rfl, rfl, trivial⟩ trivial ?_
  intro i hi
  dsimp only [headF, headM]
  refine bselD (fun h => ?_) (fun h => ?_)
  · have h' : i < 6 := by omega
    have wi : IntKind.i64.wrap ((i : Int) + 1) = ((i + 1 : Nat) : Int) := wrap64_in (by omega) (by omega)
    obtain ⟨ge, gle⟩ := wN_is hv h'
    have hpi := hp i h'
    have hb : ixN s p (i + 1) < 9223372036854775808 := by
      have h1 := ix_lt hp (i + 1) (by omega)
      have h2 := (pow_small (pre_le hv (show i + 1 ≤ 6 by omega))).2
      omega
    have wu : 0 ≤ IntKind.u64.wrap (s.get i) := (wid_pow hv h').2
    have key : IntKind.i64.wrap (IntKind.i64.wrap (((ixN s p i : Nat) : Int) * 2 ^ min (IntKind.u64.wrap (s.get i)).toNat IntKind.i64.bits) + p.get i) = ((ixN s p (i + 1) : Nat) : Int) := by
      have e : p.get i = (((p.get i).toNat : Nat) : Int) := by omega
      have e2 : ixN s p (i + 1) = ixN s p i * 2 ^ wN s i + (p.get i).toNat := rfl
      rw [ge, wrapU64_in (n := ((wN s i : Nat) : Int)) (by omega) (by omega), shlI gle (by omega), e2, wrap64_in (by omega) (by omega)]
      omega
    have hmu : 6 - (i + 1) < 6 - i := by omega
    repeat refine AJoin.plain ?_
    rcases below6 h' with rfl | rfl | rfl | rfl | rfl | rfl <;>
    · refine And.intro ⟨by decide, by decide⟩ ?_
      refine And.intro wu ?_
      refine And.intro ⟨by decide, by decide⟩ ?_
      repeat (first | refine And.intro (by kernel_rfl) ?_ | refine And.intro (by decide) ?_)
      exact ⟨_, ⟨h', hmu⟩, .id ⟨congrArg (int .i64) key, congrArg (int .i64) wi, trivial⟩ rfl trivial rfl⟩
  · obtain rfl : i = 6 := by omega
    repeat (first | refine And.intro (by kernel_rfl) ?_ | refine And.intro (by decide) ?_)
    exact ⟨_, by rw [ixF, h1, h2, if_pos rfl, if_pos rfl], .id rfl trivial⟩
set_option maxHeartbeats 3200000 in
set_option maxRecDepth 10000 in
theorem rat_fc (s : S6) (x : Int) : ∃ p : S6 × Int, FC Try.prog 62 [s6S s, int .i64 x] [] (atT p) [] ∧ p = atF s x := by
  refine FC.rj mix Try.func62 ?_
  repeat (first | refine And.intro (by kernel_rfl) ?_ | refine And.intro (by decide) ?_)
  refine FC.u (rvalid_is s) [] ?_
  refine bselNot (bsel_intro (fun h1 => ?_) (fun h1 => ?_))
  rotate_left
  · repeat (first | refine And.intro (by kernel_rfl) ?_ | refine And.intro (by decide) ?_)
    exact ⟨(zero6, 1), by rw [atF, h1]; rfl, .id rfl trivial⟩
  have hv := shB_iff.1 h1
  repeat refine AJoin.plain ?_
  refine bselD (fun h2 => ?_) (fun h2 => ?_)
  · repeat (first | refine And.intro (by kernel_rfl) ?_ | refine And.intro (by decide) ?_)
    exact ⟨(zero6, 2), by rw [atF, h1, if_pos rfl, if_neg (by omega)], .id rfl trivial⟩
  refine FC.u (rsize_fc s) [] ?_
  refine bselD (fun h3 => ?_) (fun h3 => ?_)
  · repeat (first | refine And.intro (by kernel_rfl) ?_ | refine And.intro (by decide) ?_)
    exact ⟨(zero6, 2), by rw [atF, h1, if_pos rfl, if_neg (by omega)], .id rfl trivial⟩
  obtain ⟨n, rfl⟩ : ∃ n : Nat, x = n := ⟨x.toNat, by omega⟩
  have hres : atF s (n : Int) = (atS s n, 0) := by rw [atF, h1, if_pos rfl, if_pos ⟨by omega, by omega⟩, Int.toNat_natCast]
  have hn : n < 9223372036854775808 := by
    have := pow_small (n := bitsN s) (by unfold bitsN; have := hv.2; omega)
    rw [sizeF, h1, if_pos rfl] at h3
    generalize 2 ^ bitsN s = P at this h3
    omega
  repeat refine AJoin.plain ?_
  refine FC.u (bits_fc s) [] ?_
  repeat refine AJoin.plain ?_
  refine ALoop.go (X := AX6) (fun x => x.j ≤ 6 ∧ ∀ i, i < 6 → 6 ≤ i + x.j → x.q.get i = ((digF s n i : Nat) : Int)) (fun x => 6 - x.j) [4, 6, 7] [1, 2] (fun x => [(1, int .i64 ((n / 2 ^ suf s x.j : Nat) : Int)), (8, int .i64 (5 - (x.j : Int)))]) (fun x => [(3, ⟨.box (s6C x.q), true⟩)]) ⟨0, zero6⟩ ⟨Nat.zero_le _, fun i h1 h2 => by simp only at h2; omega⟩ ⟨congrArg (int .i64) (by simp [suf]), rfl, trivial⟩ ⟨.inl rfl, trivial⟩ ?_
  rintro ⟨j, q⟩ ⟨hj, hq⟩
  simp only at hj hq
  dsimp only [headF, headM]
  refine bselD (fun h => ?_) (fun h => ?_)
  · have h' : j < 6 := by omega
    have wj : IntKind.i64.wrap (5 - (j : Int) - 1) = 5 - ((j + 1 : Nat) : Int) := by rw [wrap64_in (by omega) (by omega)]; omega
    have hi5 : 5 - j < 6 := by omega
    obtain ⟨wp, wu⟩ := wid_pow hv hi5
    obtain ⟨ge, gle⟩ := wN_is hv hi5
    have hp1 := pow_small gle
    have hnd : n / 2 ^ suf s j < 9223372036854775808 := Nat.lt_of_le_of_lt (Nat.div_le_self _ _) hn
    have keyA : ((n / 2 ^ suf s j : Nat) : Int).tmod (IntKind.i64.wrap (1 * 2 ^ min (IntKind.u64.wrap (s.get (5 - j))).toNat IntKind.i64.bits)) = ((digF s n (5 - j) : Nat) : Int) := by
      rw [wp, digF, show 5 - (5 - j) = j by omega]; rfl
    have keyB : IntKind.i64.wrap (((n / 2 ^ suf s j : Nat) : Int).tdiv (IntKind.i64.wrap (1 * 2 ^ min (IntKind.u64.wrap (s.get (5 - j))).toNat IntKind.i64.bits))) = ((n / 2 ^ suf s (j + 1) : Nat) : Int) := by
      have e : ((n / 2 ^ suf s j : Nat) : Int).tdiv ((2 ^ wN s (5 - j) : Nat) : Int) = ((n / 2 ^ suf s j / 2 ^ wN s (5 - j) : Nat) : Int) := rfl
      have e3 : n / 2 ^ suf s j / 2 ^ wN s (5 - j) ≤ n / 2 ^ suf s j := Nat.div_le_self _ _
      rw [wp, e]
      generalize hQ : n / 2 ^ suf s j / 2 ^ wN s (5 - j) = Q at e3 ⊢
      rw [wrap64_in (by omega) (by omega), ← hQ, suf, Nat.div_div_eq_div_mul, ← Nat.pow_add]
    have nz : IntKind.i64.wrap (1 * 2 ^ min (IntKind.u64.wrap (s.get (5 - j))).toNat IntKind.i64.bits) ≠ 0 := by rw [wp]; omega
    have hmu : 6 - (j + 1) < 6 - j := by omega
    have inv : j + 1 ≤ 6 ∧ ∀ i, i < 6 → 6 ≤ i + (j + 1) → (q.set (5 - j) (((n / 2 ^ suf s j : Nat) : Int).tmod (IntKind.i64.wrap (1 * 2 ^ min (IntKind.u64.wrap (s.get (5 - j))).toNat IntKind.i64.bits)))).get i = ((digF s n i : Nat) : Int) := by
      refine ⟨h', fun i hi hij => ?_⟩
      rw [get_set hi5 hi]
      by_cases e : i = 5 - j
      · rw [if_pos e, keyA, e]
      · rw [if_neg e]; exact hq i hi (by omega)
    repeat refine AJoin.plain ?_
    rcases below6 h' with rfl | rfl | rfl | rfl | rfl | rfl <;>
    · refine And.intro ⟨by decide, by decide⟩ ?_
      refine And.intro wu ?_
      refine And.intro nz ?_
      refine And.intro ⟨by decide, by decide⟩ ?_
      refine And.intro ⟨by decide, by decide⟩ ?_
      refine And.intro wu ?_
      refine And.intro nz ?_
      repeat (first | refine And.intro (by kernel_rfl) ?_ | refine And.intro (by decide) ?_)
      exact ⟨⟨_, _⟩, ⟨inv, hmu⟩, .id ⟨congrArg (int .i64) keyB, congrArg (int .i64) wj, trivial⟩ rfl ⟨.inl rfl, trivial⟩ rfl⟩
  · obtain rfl : j = 6 := by omega
    have hqe : q = atS s n := by
      have e0 := hq 0 (by omega) (by omega); have e1 := hq 1 (by omega) (by omega); have e2 := hq 2 (by omega) (by omega); have e3 := hq 3 (by omega) (by omega); have e4 := hq 4 (by omega) (by omega); have e5 := hq 5 (by omega) (by omega)
      obtain ⟨a, b, c, d, e, f⟩ := q
      simp only [S6.get] at e0 e1 e2 e3 e4 e5
      subst e0 e1 e2 e3 e4 e5
      rfl
    subst hqe
    repeat (first | refine And.intro (by kernel_rfl) ?_ | refine And.intro (by decide) ?_)
    exact ⟨(atS s n, 0), hres.symm, .id rfl trivial⟩
end Go.Sx.T1
namespace Go.Sx.Gf
theorem pv_range (ps : List Pr) : ∀ c, (solveE ps c).pv.length = c → (solveE ps c).pv = List.range c
  | 0, _ => rfl
  | c + 1, h => by
    have hi := solve_inv ps c
    have hf := free_len ps c
    rw [solveE] at h ⊢
    cases hp : pick (solveE ps c) c with
    | none =>
      rw [show stepE (solveE ps c) c = solveE ps c by simp only [stepE, hp]] at h
      omega
    | some i =>
      have hs : (stepE (solveE ps c) c).pv = (solveE ps c).pv ++ [c] := by simp only [stepE, hp]
      rw [hs] at h ⊢
      have hl : (solveE ps c).pv.length = c := by simpa using h
      rw [pv_range ps c hl, List.range_succ]
section
variable {rows pts : List Nat} {n : Nat} (hn : rows.length = n) (hp : pts.length = n) (hpt : ∀ k, k < n → pts.getD k 0 = 2 ^ k) (hrk : rk n rows = n)
include hn hp hpt hrk
/-- x is mapped to v exactly if the inverse maps v to x -/
theorem inv_iff (x v : Nat) : (∀ k, k < n → dot n (rows.getD k 0) x = v.testBit k) ↔ ∀ k, k < n → dot n (((solveE (rows.zip pts) n).ps.getD k z2).2) v = x.testBit k := by
  have hzl : (rows.zip pts).length = n := by simp [hn, hp]
  have hi := solve_inv (rows.zip pts) n
  have hpl : (solveE (rows.zip pts) n).pv.length = n := by rw [rk_zip (by omega)]; exact hrk
  have hpv := pv_range _ _ hpl
  generalize solveE (rows.zip pts) n = e at hi hpl hpv
  have hel : e.ps.length = n := by rw [hi.len, hzl]
  have hg : ∀ k, k < n → e.pv.getD k 0 = k := fun k hk => by rw [hpv]; simp [List.getD_eq_getElem?_getD, hk]
  have hrow : ∀ k, k < n → dot n (e.ps.getD k z2).1 x = x.testBit k := fun k hk => by
    have h1 := hi.piv k (by omega)
    rw [hg k hk] at h1
    rw [dot_one hk fun b hb hne => ?_, h1, Bool.true_and]
    have h2 := hi.oth b (by omega) k (fun h => hne h.symm)
    rw [hg b hb] at h2
    rw [h2]; rfl
  have hz : ∀ k, k < n → (rows.zip pts).getD k z2 = (rows.getD k 0, 2 ^ k) := fun k hk => by
    rw [← hpt k hk]
    simp [List.getD_eq_getElem?_getD, hn, hp, hk]
  have he := hi.eqv n n x v
  unfold Holds at he
  rw [hzl, hel] at he
  constructor
  · intro h k hk
    have := he.2 (fun k hk => by rw [hz k hk]; simp only [dot_two v hk]; exact h k hk) k hk
    rw [hrow k hk] at this
    exact this.symm
  · intro h k hk
    have := he.1 (fun k hk => by rw [hrow k hk]; exact (h k hk).symm) k hk
    rw [hz k hk] at this
    simpa only [dot_two v hk] using this
end
end Go.Sx.Gf
namespace Go.Sx.T1
open Go.Proofs Go.Sx.Gf
theorem MkOk.check {b : Nat} {N : List Nat} (h : MkOk b N) (hb : b ≤ 60) : checkF N = 0 := by
  have hl := h.len
  unfold checkF
  rw [if_neg (by omega)]
  by_cases h0 : N.length = 0
  · rw [if_pos h0]
  · have ho : okM N.length N = true := by
      simp only [okM, sideB, Bool.and_eq_true, decide_eq_true_eq, List.all_eq_true]
      refine ⟨⟨by omega, by omega⟩, ⟨by omega, by omega⟩, fun v hv => ?_⟩
      obtain ⟨k, hk, rfl⟩ := List.getElem_of_mem hv
      have := h.bd k
      rw [List.getD_eq_getElem?_getD, List.getElem?_eq_getElem hk] at this
      rw [hl]; simpa using this
    have hf := h.ker.full
    rw [if_neg h0, if_neg (by simp [ho]), if_neg (by rw [hl]; omega)]
theorem rk_len (n : Nat) (rows : List Nat) : rk n rows ≤ rows.length := by
  have h := solve_inv (rows.zip (units rows.length)) n
  have h1 := rk_zip (C := n) (rows := rows) (pts := units rows.length) (units_len _)
  have h2 : (rows.zip (units rows.length)).length = rows.length := by simp [units_len]
  have := h.pvl
  have := h.len
  omega
theorem apF64 {rows : List Nat} {c v x : Nat} (hc : c ≤ 64) (hb : ∀ k, rows.getD k 0 < 2 ^ c) (hv : v < 2 ^ rows.length) : apF rows x rows.length = v ↔ ∀ k, k < rows.length → dot c (rows.getD k 0) x = v.testBit k := by
  constructor
  · intro h k hk
    rw [← h, apF, ofB_bit, decide_eq_true hk, Bool.true_and, dot_cut x (hb k) hc]
  · intro h
    refine eq_bits (apF_lt _ _ _) hv fun i hi => ?_
    rw [apF, ofB_bit, decide_eq_true hi, Bool.true_and, dot_cut x (hb i) hc, h i hi]
/-- masks with a full rank, and their inverse -/
structure InvOk (N r : List Nat) : Prop where
  len : r.length = N.length
  bd : ∀ k, r.getD k 0 < 2 ^ N.length
  iff : ∀ x v, x < 2 ^ N.length → v < 2 ^ N.length → (valF N x = v ↔ valF r v = x)
theorem inv_ok {N : List Nat} (h : checkF N = 0) (hl : N.length ≤ 64) : InvOk N (inv10F N).1 ∧ (inv10F N).2 = 0 := by
  by_cases h0 : N.length = 0
  · have e : inv10F N = ([], 0) := by rw [inv10F, if_pos (.inr h0), h]
    have e2 : N = [] := List.length_eq_zero_iff.1 h0
    rw [e]
    subst e2
    refine ⟨⟨rfl, fun k => by simp, fun x v hx hv => ?_⟩, rfl⟩
    have hx' : x = 0 := by simpa using hx
    have hv' : v = 0 := by simpa using hv
    subst hx' hv'
    exact Iff.rfl
  · have e : inv10F N = ((invF N.length N).rows, 0) := by rw [inv10F, if_neg (by omega)]
    rw [checkF, if_neg (by omega), if_neg h0] at h
    have ho : okM N.length N = true := by
      cases hk : okM N.length N with
      | true => rfl
      | false => rw [hk, if_pos rfl] at h; exact absurd h (by decide)
    rw [if_neg (by simp [ho])] at h
    have hrk : rk N.length N = N.length := by
      have := rk_len N.length N
      by_cases hlt : rk N.length N < N.length
      · rw [if_pos hlt] at h; exact absurd h (by decide)
      · omega
    obtain ⟨b1, b2, b3, b4, b5⟩ := okM_bd ho
    rw [Int.toNat_natCast] at b5
    have hz : (N.zip (units N.length)).length = N.length := by simp [units_len]
    have hpv : (solveE (N.zip (units N.length)) N.length).pv.length = N.length := by rw [rk_zip (units_len _)]; exact hrk
    have er : (invF N.length N).rows = snds (solveE (N.zip (units N.length)) N.length).ps := by
      rw [invF, ho, if_pos rfl, if_neg (by simp), if_neg (by omega)]
    rw [e, er]
    have hsl : (snds (solveE (N.zip (units N.length)) N.length).ps).length = N.length := by
      rw [snds_len, (solve_inv (N.zip (units N.length)) N.length).len, hz]
    have hB : Bd N.length N.length (N.zip (units N.length)) := fun k => by
      by_cases hk : k < N.length
      · have : (N.zip (units N.length)).getD k z2 = (N.getD k 0, (units N.length).getD k 0) := by
          have hk2 : k < (units N.length).length := by rw [units_len]; exact hk
          have hk3 : k < (N.zip (units N.length)).length := by omega
          rw [List.getD_eq_getElem?_getD, List.getElem?_eq_getElem hk3, List.getD_eq_getElem?_getD, List.getElem?_eq_getElem hk, List.getD_eq_getElem?_getD, List.getElem?_eq_getElem hk2, List.getElem_zip]; rfl
        rw [this]
        exact ⟨b5 k, units_bd _ _⟩
      · rw [getD_out (by omega)]
        exact z2_bd _ _
    have hbd : ∀ k, (snds (solveE (N.zip (units N.length)) N.length).ps).getD k 0 < 2 ^ N.length := fun k => by
      rw [snds_get]; exact (hB.solve N.length k).2
    refine ⟨⟨hsl, hbd, fun x v hx hv => ?_⟩, rfl⟩
    have key := inv_iff (rows := N) (pts := units N.length) (n := N.length) rfl (units_len _) (fun k hk => units_get hk) hrk x v
    have m1 : min N.length 64 = N.length := by omega
    have m2 : min (snds (solveE (N.zip (units N.length)) N.length).ps).length 64 = (snds (solveE (N.zip (units N.length)) N.length).ps).length := by omega
    rw [valF, m1, valF, m2, apF64 hl b5 hv, apF64 (c := N.length) hl hbd (by rw [hsl]; exact hx), hsl, key]
    constructor
    · intro h k hk; rw [snds_get]; exact h k hk
    · intro h k hk; have := h k hk; rwa [snds_get] at this
end Go.Sx.T1
namespace Go.Sx.T1
open Go.Proofs Go.Sx.Gf
theorem valF_lt (masks : List Nat) (a : Nat) : valF masks a < 2 ^ min masks.length 64 := apF_lt _ _ _
theorem norm_ok {m : MapN} (ok : McOk m) {x : Int} (h : (normF m x).2 = true) : 0 ≤ (normF m x).1 ∧ (normF m x).1 < sizeF m.s := by
  have h1 := ok.lo
  have h2 := ok.hi
  unfold normF at h ⊢
  split at h
  · exact absurd h (by decide)
  · rename_i c1
    rw [if_neg c1]
    split at h
    · rename_i c2
      rw [if_pos c2]; exact ⟨Int.not_lt.1 c1, Int.lt_of_lt_of_le c2 h1.2⟩
    · rename_i c2
      rw [if_neg c2]
      split at h
      · exact absurd h (by decide)
      · rename_i c3
        rw [if_neg c3]
        simp only [decide_eq_true_eq] at h
        exact ⟨by simp only; omega, h⟩
/-- a value of the masks, in an int -/
theorem val_i64 {N : List Nat} (h : N.length ≤ 12) (a : Nat) : IntKind.i64.wrap ((valF N a : Nat) : Int) = ((valF N a : Nat) : Int) ∧ valF N a < 2 ^ N.length := by
  have h1 := valF_lt N a
  rw [show min N.length 64 = N.length by omega] at h1
  have h2 := pow_small h
  exact ⟨wrap64_in (by omega) (by omega), h1⟩
def locF (m : MapN) (x : Int) : Int × Int := if mcF m ≠ 0 then (0, mcF m) else if (normF m x).2 = false then (0, 9) else (((valF m.N (normF m x).1.toNat : Nat) : Int), 0)
def i2T (p : Int × Int) : SV := .t [.c (.v (.int .i64 p.1)), .c (.v (.int .i64 p.2))]
set_option maxHeartbeats 3200000 in
set_option maxRecDepth 10000 in
theorem locate_fc (m : MapN) (x : Int) (hl : m.N.length ≤ 140737488351232) (hr : ∀ k, m.N.getD k 0 < 18446744073709551616) (hx : x ≤ 9223372036854775807) :
    ∃ r : Int × Int, FC Try.prog 16 [nS m 0, int .i64 x] (nM m) (i2T r) (nM m) ∧ r = locF m x := by
  refine FC.rj mix Try.func16 ?_
  repeat (first | refine And.intro (by kernel_rfl) ?_ | refine And.intro (by decide) ?_)
  refine FC.u (mcheck_fc m hl hr) [0] ?_
  repeat (first | refine And.intro (by kernel_rfl) ?_ | refine And.intro (by decide) ?_)
  refine bselN (fun h1 => ?_) (fun h1 => ?_)
  · repeat (first | refine And.intro (by kernel_rfl) ?_ | refine And.intro (by decide) ?_)
    exact ⟨(0, mcF m), by rw [locF, if_pos h1], .id rfl ⟨.inl rfl, trivial⟩⟩
  have ok := (mc_iff m).1 h1
  repeat refine AJoin.plain ?_
  refine FC.x (normal_fc m x ok hx) [0] (fun r er => ?_)
  have hn := norm_ok ok (x := x)
  have e1 : locF m x = if r.2 = false then (0, 9) else (((valF m.N r.1.toNat : Nat) : Int), 0) := by rw [locF, if_neg (fun h => h h1), er]
  rw [← er] at hn
  obtain ⟨y, b⟩ := r
  clear er
  simp only at hn e1
  repeat (first | refine And.intro (by kernel_rfl) ?_ | refine And.intro (by decide) ?_)
  refine bselNot (bsel_intro (fun h2 => ?_) (fun h2 => ?_))
  rotate_left
  · repeat (first | refine And.intro (by kernel_rfl) ?_ | refine And.intro (by decide) ?_)
    exact ⟨(0, 9), by rw [show b = false from h2, if_pos rfl] at e1; exact e1.symm, .id rfl ⟨.inl rfl, trivial⟩⟩
  have h2 : b = true := h2
  obtain ⟨hs, hb⟩ := size_is ok.sh
  have hp := pow_small hb
  obtain ⟨hy0, hy1⟩ := hn h2
  obtain ⟨y, rfl⟩ : ∃ n : Nat, y = n := ⟨y.toNat, by omega⟩
  have w1 : IntKind.u64.wrap (y : Int) = (y : Int) := wrapU64_in (by omega) (by omega)
  have w2 := (val_i64 (N := m.N) (by have := ok.len; omega) y).1
  repeat refine AJoin.plain ?_
  conv => whnf
  rw [w1]
  refine FC.u (value_fc m.N y hl hr (by omega)) [0] ?_
  conv => whnf
  rw [w2]
  repeat (first | refine And.intro (by kernel_rfl) ?_ | refine And.intro (by decide) ?_)
  exact ⟨(((valF m.N y : Nat) : Int), 0), by rw [e1, if_neg (by simp [show b = true from h2]), Int.toNat_natCast], .id rfl ⟨.inl rfl, trivial⟩⟩
def adrF (m : MapN) (x : Int) : Int × Int := if mcF m ≠ 0 then (0, mcF m) else if x < 0 ∨ x ≥ sizeF m.s then (0, 2) else
  let v : Int := ((valF (inv10F m.N).1 x.toNat : Nat) : Int)
  (if v ≥ m.lo then v + (m.hi - m.lo) else v, 0)
set_option maxHeartbeats 3200000 in
set_option maxRecDepth 10000 in
theorem address_fc (m : MapN) (x : Int) (hl : m.N.length ≤ 140737488351232) (hr : ∀ k, m.N.getD k 0 < 18446744073709551616) :
    ∃ r : Int × Int, FC Try.prog 15 [nS m 0, int .i64 x] (nM m) (i2T r) (nM m) ∧ r = adrF m x := by
  refine FC.rj mix Try.func15 ?_
  repeat (first | refine And.intro (by kernel_rfl) ?_ | refine And.intro (by decide) ?_)
  refine FC.u (mcheck_fc m hl hr) [0] ?_
  repeat (first | refine And.intro (by kernel_rfl) ?_ | refine And.intro (by decide) ?_)
  refine bselN (fun h1 => ?_) (fun h1 => ?_)
  · repeat (first | refine And.intro (by kernel_rfl) ?_ | refine And.intro (by decide) ?_)
    exact ⟨(0, mcF m), by rw [adrF, if_pos h1], .id rfl ⟨.inl rfl, trivial⟩⟩
  have ok := (mc_iff m).1 h1
  obtain ⟨hs, hb⟩ := size_is ok.sh
  have hp := pow_small hb
  have hlo := ok.lo
  have hhi := ok.hi
  have hlen := ok.len
  have e1 : adrF m x = if x < 0 ∨ x ≥ sizeF m.s then (0, 2) else
    (if ((valF (inv10F m.N).1 x.toNat : Nat) : Int) ≥ m.lo then ((valF (inv10F m.N).1 x.toNat : Nat) : Int) + (m.hi - m.lo) else ((valF (inv10F m.N).1 x.toNat : Nat) : Int), 0) := by rw [adrF, if_neg (fun h => h h1)]
  repeat (first | refine And.intro (by kernel_rfl) ?_ | refine And.intro (by decide) ?_)
  refine bselD (fun h2 => ?_) (fun h2 => ?_)
  · repeat (first | refine And.intro (by kernel_rfl) ?_ | refine And.intro (by decide) ?_)
    exact ⟨(0, 2), by rw [e1, if_pos (.inl h2)], .id rfl ⟨.inl rfl, trivial⟩⟩
  refine FC.u (size_fc m.s) [] ?_
  refine bselD (fun h3 => ?_) (fun h3 => ?_)
  · repeat (first | refine And.intro (by kernel_rfl) ?_ | refine And.intro (by decide) ?_)
    exact ⟨(0, 2), by rw [e1, if_pos (.inr h3)], .id rfl ⟨.inl rfl, trivial⟩⟩
  rw [if_neg (by omega)] at e1
  obtain ⟨x, rfl⟩ : ∃ n : Nat, x = n := ⟨x.toNat, by omega⟩
  rw [Int.toNat_natCast] at e1
  have w1 : IntKind.u64.wrap (x : Int) = (x : Int) := wrapU64_in (by omega) (by omega)
  obtain ⟨io, _⟩ := inv_ok ok.ck (by omega)
  repeat refine AJoin.plain ?_
  refine FC.x (inverse10_fc m.N hl hr) [0] (fun p ep => ?_)
  rw [← ep] at io e1
  clear ep
  obtain ⟨r, er⟩ := p
  simp only at io e1
  have hrl := io.len
  obtain ⟨w2, hv⟩ := val_i64 (N := r) (by omega) x
  have hpl := pow_small (show r.length ≤ 12 by omega)
  have w3 : IntKind.i64.wrap (m.hi - m.lo) = m.hi - m.lo := wrap64_in (by omega) (by omega)
  have w4 : IntKind.i64.wrap (((valF r x : Nat) : Int) + (m.hi - m.lo)) = ((valF r x : Nat) : Int) + (m.hi - m.lo) := wrap64_in (by omega) (by omega)
  repeat refine AJoin.plain ?_
  conv => whnf
  rw [w1]
  refine FC.u (value_fc r x (by omega) (fun k => lt64 (io.bd k) (by omega)) (by omega)) [2] ?_
  conv => whnf
  rw [w2]
  repeat refine AJoin.plain ?_
  refine bselD (fun h4 => ?_) (fun h4 => ?_)
  · repeat refine AJoin.plain ?_
    conv => whnf
    rw [w3, w4]
    repeat (first | refine And.intro (by kernel_rfl) ?_ | refine And.intro (by decide) ?_)
    exact ⟨(((valF r x : Nat) : Int) + (m.hi - m.lo), 0), by rw [e1, if_pos h4], .id rfl ⟨.inl rfl, trivial⟩⟩
  · repeat refine AJoin.plain ?_
    repeat (first | refine And.intro (by kernel_rfl) ?_ | refine And.intro (by decide) ?_)
    exact ⟨(((valF r x : Nat) : Int), 0), by rw [e1, if_neg h4], .id rfl ⟨.inl rfl, trivial⟩⟩
def plF (m : MapN) (x : Int) : S6 × Int := if (locF m x).2 ≠ 0 then (zero6, (locF m x).2) else atF m.s (locF m x).1
set_option maxHeartbeats 3200000 in
set_option maxRecDepth 10000 in
theorem mplace_fc (m : MapN) (x : Int) (hl : m.N.length ≤ 140737488351232) (hr : ∀ k, m.N.getD k 0 < 18446744073709551616) (hx : x ≤ 9223372036854775807) :
    ∃ r : S6 × Int, FC Try.prog 17 [nS m 0, int .i64 x] (nM m) (atT r) (nM m) ∧ r = plF m x := by
  refine FC.rj mix Try.func17 ?_
  repeat (first | refine And.intro (by kernel_rfl) ?_ | refine And.intro (by decide) ?_)
  refine FC.x (locate_fc m x hl hr hx) [0] (fun r er => ?_)
  have e1 : plF m x = if r.2 ≠ 0 then (zero6, r.2) else atF m.s r.1 := by rw [plF, ← er]
  clear er
  obtain ⟨y, e⟩ := r
  simp only at e1
  repeat (first | refine And.intro (by kernel_rfl) ?_ | refine And.intro (by decide) ?_)
  refine bselN (fun h1 => ?_) (fun h1 => ?_)
  · repeat (first | refine And.intro (by kernel_rfl) ?_ | refine And.intro (by decide) ?_)
    exact ⟨(zero6, e), by rw [e1, if_pos h1], .id rfl ⟨.inl rfl, trivial⟩⟩
  repeat refine AJoin.plain ?_
  refine FC.x (at_fc m.s y) [] (fun q eq => ?_)
  repeat (first | refine And.intro (by kernel_rfl) ?_ | refine And.intro (by decide) ?_)
  exact ⟨q, by rw [e1, if_neg (fun h => h h1), eq], .id rfl ⟨.inl rfl, trivial⟩⟩
def ofF (m : MapN) (p : S6) : Int × Int := if mcF m ≠ 0 then (0, mcF m) else if (ixF m.s p).2 ≠ 0 then (0, (ixF m.s p).2) else adrF m (ixF m.s p).1
set_option maxHeartbeats 3200000 in
set_option maxRecDepth 10000 in
theorem of_fc (m : MapN) (p : S6) (hl : m.N.length ≤ 140737488351232) (hr : ∀ k, m.N.getD k 0 < 18446744073709551616) :
    ∃ r : Int × Int, FC Try.prog 19 [nS m 0, s6S p] (nM m) (i2T r) (nM m) ∧ r = ofF m p := by
  refine FC.rj mix Try.func19 ?_
  repeat (first | refine And.intro (by kernel_rfl) ?_ | refine And.intro (by decide) ?_)
  refine FC.u (mcheck_fc m hl hr) [0] ?_
  repeat (first | refine And.intro (by kernel_rfl) ?_ | refine And.intro (by decide) ?_)
  refine bselN (fun h1 => ?_) (fun h1 => ?_)
  · repeat (first | refine And.intro (by kernel_rfl) ?_ | refine And.intro (by decide) ?_)
    exact ⟨(0, mcF m), by rw [ofF, if_pos h1], .id rfl ⟨.inl rfl, trivial⟩⟩
  repeat refine AJoin.plain ?_
  refine FC.x (index_fc m.s p) [] (fun r er => ?_)
  have e1 : ofF m p = if r.2 ≠ 0 then (0, r.2) else adrF m r.1 := by rw [ofF, if_neg (fun h => h h1), ← er]
  clear er
  obtain ⟨y, e⟩ := r
  simp only at e1
  repeat (first | refine And.intro (by kernel_rfl) ?_ | refine And.intro (by decide) ?_)
  refine bselN (fun h2 => ?_) (fun h2 => ?_)
  · repeat (first | refine And.intro (by kernel_rfl) ?_ | refine And.intro (by decide) ?_)
    exact ⟨(0, e), by rw [e1, if_pos h2], .id rfl ⟨.inl rfl, trivial⟩⟩
  repeat refine AJoin.plain ?_
  refine FC.x (address_fc m y hl hr) [0] (fun q eq => ?_)
  repeat (first | refine And.intro (by kernel_rfl) ?_ | refine And.intro (by decide) ?_)
  exact ⟨q, by rw [e1, if_neg (fun h => h h2), eq], .id rfl ⟨.inl rfl, trivial⟩⟩
def nxF (m : MapN) (x : Int) : Int × Bool := if mcF m ≠ 0 then (0, false) else
  let y := max x 0
  let z := if y ≥ m.lo then max y m.hi else y
  if (normF m z).2 = true then (z, true) else (0, false)
def ibT (p : Int × Bool) : SV := .t [.c (.v (.int .i64 p.1)), .c (.v (.bool p.2))]
set_option maxHeartbeats 3200000 in
set_option maxRecDepth 10000 in
theorem mnext_fc (m : MapN) (x : Int) (hl : m.N.length ≤ 140737488351232) (hr : ∀ k, m.N.getD k 0 < 18446744073709551616) (hx : x ≤ 9223372036854775807) :
    ∃ r : Int × Bool, FC Try.prog 21 [nS m 0, int .i64 x] (nM m) (ibT r) (nM m) ∧ r = nxF m x := by
  refine FC.rj mix Try.func21 ?_
  repeat (first | refine And.intro (by kernel_rfl) ?_ | refine And.intro (by decide) ?_)
  refine FC.u (mcheck_fc m hl hr) [0] ?_
  repeat (first | refine And.intro (by kernel_rfl) ?_ | refine And.intro (by decide) ?_)
  refine bselN (fun h1 => ?_) (fun h1 => ?_)
  · repeat (first | refine And.intro (by kernel_rfl) ?_ | refine And.intro (by decide) ?_)
    exact ⟨(0, false), by rw [nxF, if_pos h1], .id rfl ⟨.inl rfl, trivial⟩⟩
  have ok := (mc_iff m).1 h1
  have hhi := ok.hi
  have e1 : nxF m x = if (normF m (if max x 0 ≥ m.lo then max (max x 0) m.hi else max x 0)).2 = true then ((if max x 0 ≥ m.lo then max (max x 0) m.hi else max x 0), true) else (0, false) := by rw [nxF, if_neg (fun h => h h1)]
  have m0 : (if false = true then if 0 < x then 0 else x else if 0 > x then 0 else x) = max x 0 := by rw [if_neg (by decide)]; split <;> omega
  have hy : 0 ≤ max x 0 ∧ max x 0 ≤ 9223372036854775807 := by omega
  repeat refine AJoin.plain ?_
  conv => whnf
  rw [m0]
  generalize max x 0 = y at e1 hy
  have m1 : (if false = true then if m.hi < y then m.hi else y else if m.hi > y then m.hi else y) = max y m.hi := by rw [if_neg (by decide)]; split <;> omega
  clear m0
  repeat refine AJoin.plain ?_
  refine bselD (fun h2 => ?_) (fun h2 => ?_)
  · rw [if_pos h2] at e1
    have hz : max y m.hi ≤ 9223372036854775807 := by omega
    repeat refine AJoin.plain ?_
    conv => whnf
    rw [m1]
    refine FC.x (normal_fc m (max y m.hi) ok hz) [0] (fun r er => ?_)
    rw [← er] at e1
    clear er
    obtain ⟨v, b⟩ := r
    repeat (first | refine And.intro (by kernel_rfl) ?_ | refine And.intro (by decide) ?_)
    refine bselNot (bsel_intro (fun h3 => ?_) (fun h3 => ?_))
    · have h3 : b = true := h3
      rw [if_pos h3] at e1
      repeat (first | refine And.intro (by kernel_rfl) ?_ | refine And.intro (by decide) ?_)
      exact ⟨(max y m.hi, true), e1.symm, .id rfl ⟨.inl rfl, trivial⟩⟩
    · have h3 : b = false := h3
      rw [if_neg (by simp [h3])] at e1
      repeat (first | refine And.intro (by kernel_rfl) ?_ | refine And.intro (by decide) ?_)
      exact ⟨(0, false), e1.symm, .id rfl ⟨.inl rfl, trivial⟩⟩
  · rw [if_neg h2] at e1
    repeat refine AJoin.plain ?_
    refine FC.x (normal_fc m y ok hy.2) [0] (fun r er => ?_)
    rw [← er] at e1
    clear er
    obtain ⟨v, b⟩ := r
    repeat (first | refine And.intro (by kernel_rfl) ?_ | refine And.intro (by decide) ?_)
    refine bselNot (bsel_intro (fun h3 => ?_) (fun h3 => ?_))
    · have h3 : b = true := h3
      rw [if_pos h3] at e1
      repeat (first | refine And.intro (by kernel_rfl) ?_ | refine And.intro (by decide) ?_)
      exact ⟨(y, true), e1.symm, .id rfl ⟨.inl rfl, trivial⟩⟩
    · have h3 : b = false := h3
      rw [if_neg (by simp [h3])] at e1
      repeat (first | refine And.intro (by kernel_rfl) ?_ | refine And.intro (by decide) ?_)
      exact ⟨(0, false), e1.symm, .id rfl ⟨.inl rfl, trivial⟩⟩
end Go.Sx.T1
namespace Go.Sx.T1
open Go.Proofs Go.Sx.Gf
/-! the reference of layer 12 -/
set_option maxHeartbeats 3200000 in
set_option maxRecDepth 10000 in
theorem rcheck_fc (m : MapN) (hl : m.N.length ≤ 140737488351232) (hr : ∀ k, m.N.getD k 0 < 18446744073709551616) : FC Try.prog 22 [nS m 0] (nM m) (int .i64 (mcF m)) (nM m) := by
  refine FC.one (FC.rj mix Try.func22 ?_)
  repeat (first | refine And.intro (by kernel_rfl) ?_ | refine And.intro (by decide) ?_)
  refine FC.u (rvalid_is m.s) [] ?_
  refine bselNot (bsel_intro (fun h1 => ?_) (fun h1 => ?_))
  rotate_left
  · repeat (first | refine And.intro (by kernel_rfl) ?_ | refine And.intro (by decide) ?_)
    exact ⟨(), trivial, .id (congrArg (int .i64) (by rw [mcF, h1, if_pos rfl])) ⟨.inl rfl, trivial⟩⟩
  obtain ⟨hs, hb⟩ := size_is h1
  have hp := pow_small hb
  repeat refine AJoin.plain ?_
  refine FC.u (rbits_fc m.s (shB_iff.1 h1)) [] ?_
  repeat (first | refine And.intro (by kernel_rfl) ?_ | refine And.intro (by decide) ?_)
  refine bselN (fun h2 => ?_) (fun h2 => ?_)
  · repeat (first | refine And.intro (by kernel_rfl) ?_ | refine And.intro (by decide) ?_)
    exact ⟨(), trivial, .id (congrArg (int .i64) (by rw [mcF, if_neg (by simp [h1]), if_pos (by omega)])) ⟨.inl rfl, trivial⟩⟩
  have e1 : mcF m = (if checkF m.N ≠ 0 then checkF m.N
    else if m.lo < 0 ∨ m.lo > m.hi ∨ m.hi > 1048576 ∨ m.lo > sizeF m.s ∨ m.hi - m.lo + sizeF m.s > 1048576 then 2 else 0) := by rw [mcF, if_neg (by simp [h1]), if_neg (by omega)]
  repeat refine AJoin.plain ?_
  refine FC.u (check10r_fc m.N hl hr) [0] ?_
  refine bselN (fun h3 => ?_) (fun h3 => ?_)
  · repeat (first | refine And.intro (by kernel_rfl) ?_ | refine And.intro (by decide) ?_)
    exact ⟨(), trivial, .id (congrArg (int .i64) (by rw [e1, if_pos h3])) ⟨.inl rfl, trivial⟩⟩
  rw [if_neg (fun h => h h3)] at e1
  have bad : (m.lo < 0 ∨ m.lo > m.hi ∨ m.hi > 1048576 ∨ m.lo > sizeF m.s ∨ m.hi - m.lo + sizeF m.s > 1048576) → int .i64 2 = int .i64 (mcF m) := fun h => by rw [e1, if_pos h]
  repeat refine AJoin.plain ?_
  refine FC.u (rsize_fc m.s) [] ?_
  repeat refine AJoin.plain ?_
  refine bselD (fun c1 => ?_) (fun c1 => ?_)
  · repeat (first | refine And.intro (by kernel_rfl) ?_ | refine And.intro (by decide) ?_)
    exact ⟨(), trivial, .id (bad (.inl c1)) ⟨.inl rfl, trivial⟩⟩
  refine bselD (fun c2 => ?_) (fun c2 => ?_)
  · repeat (first | refine And.intro (by kernel_rfl) ?_ | refine And.intro (by decide) ?_)
    exact ⟨(), trivial, .id (bad (.inr (.inl c2))) ⟨.inl rfl, trivial⟩⟩
  refine bselD (fun c3 => ?_) (fun c3 => ?_)
  · repeat (first | refine And.intro (by kernel_rfl) ?_ | refine And.intro (by decide) ?_)
    exact ⟨(), trivial, .id (bad (.inr (.inr (.inl c3)))) ⟨.inl rfl, trivial⟩⟩
  refine bselD (fun c4 => ?_) (fun c4 => ?_)
  · repeat (first | refine And.intro (by kernel_rfl) ?_ | refine And.intro (by decide) ?_)
    exact ⟨(), trivial, .id (bad (.inr (.inr (.inr (.inl c4))))) ⟨.inl rfl, trivial⟩⟩
  have w3 : IntKind.i64.wrap (IntKind.i64.wrap (m.hi - m.lo) + sizeF m.s) = m.hi - m.lo + sizeF m.s := by
    rw [hs]; generalize 2 ^ bitsN m.s = P at hp
    have w0 : IntKind.i64.wrap (m.hi - m.lo) = m.hi - m.lo := wrap64_in (by omega) (by omega)
    rw [w0, wrap64_in (by omega) (by omega)]
  refine bselD (fun c5 => ?_) (fun c5 => ?_)
  · repeat (first | refine And.intro (by kernel_rfl) ?_ | refine And.intro (by decide) ?_)
    exact ⟨(), trivial, .id (bad (.inr (.inr (.inr (.inr (by rw [← w3]; exact c5)))))) ⟨.inl rfl, trivial⟩⟩
  · rw [w3] at c5
    repeat (first | refine And.intro (by kernel_rfl) ?_ | refine And.intro (by decide) ?_)
    exact ⟨(), trivial, .id (congrArg (int .i64) (by rw [e1, if_neg (by omega)])) ⟨.inl rfl, trivial⟩⟩
set_option maxHeartbeats 3200000 in
set_option maxRecDepth 10000 in
theorem rnormal_fc (m : MapN) (x : Int) (ok : McOk m) (hx : x ≤ 9223372036854775807) : ∃ r : Int × Bool, FC Try.prog 59 [nS m 0, int .i64 x] (nM m) (.t [.c (.v (.int .i64 r.1)), .c (.v (.bool r.2))]) (nM m) ∧ r.2 = (normF m x).2 ∧ (r.2 = true → r.1 = (normF m x).1) := by
  obtain ⟨hs, hb⟩ := size_is ok.sh
  have hp := pow_small hb
  have hlo := ok.lo
  have hhi := ok.hi
  have hfit := ok.fit
  have w1 : IntKind.i64.wrap (m.hi - m.lo) = m.hi - m.lo := wrap64_in (by omega) (by omega)
  refine FC.rj mix Try.func59 ?_
  repeat (first | refine And.intro (by kernel_rfl) ?_ | refine And.intro (by decide) ?_)
  refine bselD (fun c1 => ?_) (fun c1 => ?_)
  · repeat (first | refine And.intro (by kernel_rfl) ?_ | refine And.intro (by decide) ?_)
    exact ⟨(0, false), ⟨by rw [normF, if_pos c1], fun h => by cases h⟩, .id rfl ⟨.inl rfl, trivial⟩⟩
  refine bselD (fun c2 => ?_) (fun c2 => ?_)
  · repeat (first | refine And.intro (by kernel_rfl) ?_ | refine And.intro (by decide) ?_)
    exact ⟨(0, false), ⟨by rw [normF, if_neg c1, if_neg (by omega), if_neg (by omega)]; simp only; rw [decide_eq_false (by omega)], fun h => by cases h⟩, .id rfl ⟨.inl rfl, trivial⟩⟩
  refine bselD (fun c3 => ?_) (fun c3 => ?_)
  · refine bselD (fun c4 => ?_) (fun c4 => ?_)
    · repeat (first | refine And.intro (by kernel_rfl) ?_ | refine And.intro (by decide) ?_)
      exact ⟨(0, false), ⟨by rw [normF, if_neg c1, if_neg (by omega), if_pos c4], fun h => by cases h⟩, .id rfl ⟨.inl rfl, trivial⟩⟩
    · have w2 : IntKind.i64.wrap (x - IntKind.i64.wrap (m.hi - m.lo)) = x - (m.hi - m.lo) := by rw [w1, wrap64_in (by omega) (by omega)]
      repeat refine AJoin.plain ?_
      refine bselD (fun c5 => ?_) (fun c5 => absurd c5 (by omega))
      repeat refine AJoin.plain ?_
      refine FC.u (rsize_fc m.s) [] ?_
      repeat (first | refine And.intro (by kernel_rfl) ?_ | refine And.intro (by decide) ?_)
      exact ⟨(x - (m.hi - m.lo), decide (x - (m.hi - m.lo) < sizeF m.s)), ⟨by rw [normF, if_neg c1, if_neg (by omega), if_neg (by omega)], fun _ => by rw [normF, if_neg c1, if_neg (by omega), if_neg (by omega)]⟩, .id (by show SV.t [.c (.v (.int .i64 (IntKind.i64.wrap (x - IntKind.i64.wrap (m.hi - m.lo))))), .c (.v (.bool (decide (IntKind.i64.wrap (x - IntKind.i64.wrap (m.hi - m.lo)) < sizeF m.s))))] = _; rw [w2]) ⟨.inl rfl, trivial⟩⟩
  · repeat refine AJoin.plain ?_
    refine bselD (fun c5 => absurd c5 (by omega)) (fun c5 => ?_)
    repeat refine AJoin.plain ?_
    refine FC.u (rsize_fc m.s) [] ?_
    repeat (first | refine And.intro (by kernel_rfl) ?_ | refine And.intro (by decide) ?_)
    exact ⟨(x, decide (x < sizeF m.s)), ⟨by rw [normF, if_neg c1, if_pos (by omega)]; exact decide_eq_true (by omega), fun _ => by rw [normF, if_neg c1, if_pos (by omega)]⟩, .id rfl ⟨.inl rfl, trivial⟩⟩
set_option maxHeartbeats 3200000 in
set_option maxRecDepth 10000 in
theorem rlocate_fc (m : MapN) (x : Int) (hl : m.N.length ≤ 140737488351232) (hr : ∀ k, m.N.getD k 0 < 18446744073709551616) (hx : x ≤ 9223372036854775807) :
    ∃ r : Int × Int, FC Try.prog 42 [nS m 0, int .i64 x] (nM m) (i2T r) (nM m) ∧ r = locF m x := by
  refine FC.rj mix Try.func42 ?_
  repeat (first | refine And.intro (by kernel_rfl) ?_ | refine And.intro (by decide) ?_)
  refine FC.u (rcheck_fc m hl hr) [0] ?_
  repeat (first | refine And.intro (by kernel_rfl) ?_ | refine And.intro (by decide) ?_)
  refine bselN (fun h1 => ?_) (fun h1 => ?_)
  · repeat (first | refine And.intro (by kernel_rfl) ?_ | refine And.intro (by decide) ?_)
    exact ⟨(0, mcF m), by rw [locF, if_pos h1], .id rfl ⟨.inl rfl, trivial⟩⟩
  have ok := (mc_iff m).1 h1
  repeat refine AJoin.plain ?_
  refine FC.x (rnormal_fc m x ok hx) [0] (fun r er => ?_)
  have hn := norm_ok ok (x := x)
  have e1 : locF m x = if r.2 = false then (0, 9) else (((valF m.N r.1.toNat : Nat) : Int), 0) := by
    rw [locF, if_neg (fun h => h h1)]
    obtain ⟨er1, er2⟩ := er
    rw [← er1]
    cases h : r.2 with
    | false => rfl
    | true => rw [if_neg (by simp), if_neg (by simp), er2 h]
  have hn' : r.2 = true → 0 ≤ r.1 ∧ r.1 < sizeF m.s := fun h => by rw [er.2 h]; exact hn (er.1 ▸ h)
  clear hn er
  have hn := hn'
  clear hn'
  obtain ⟨y, b⟩ := r
  simp only at hn e1
  repeat (first | refine And.intro (by kernel_rfl) ?_ | refine And.intro (by decide) ?_)
  refine bselNot (bsel_intro (fun h2 => ?_) (fun h2 => ?_))
  rotate_left
  · repeat (first | refine And.intro (by kernel_rfl) ?_ | refine And.intro (by decide) ?_)
    exact ⟨(0, 9), by rw [show b = false from h2, if_pos rfl] at e1; exact e1.symm, .id rfl ⟨.inl rfl, trivial⟩⟩
  have h2 : b = true := h2
  obtain ⟨hs, hb⟩ := size_is ok.sh
  have hp := pow_small hb
  obtain ⟨hy0, hy1⟩ := hn h2
  obtain ⟨y, rfl⟩ : ∃ n : Nat, y = n := ⟨y.toNat, by omega⟩
  have w1 : IntKind.u64.wrap (y : Int) = (y : Int) := wrapU64_in (by omega) (by omega)
  have w2 := (val_i64 (N := m.N) (by have := ok.len; omega) y).1
  repeat refine AJoin.plain ?_
  conv => whnf
  rw [w1]
  refine FC.u (value10r_fc m.N y hl hr (by omega)) [0] ?_
  conv => whnf
  rw [w2]
  repeat (first | refine And.intro (by kernel_rfl) ?_ | refine And.intro (by decide) ?_)
  exact ⟨(((valF m.N y : Nat) : Int), 0), by rw [e1, if_neg (by simp [show b = true from h2]), Int.toNat_natCast], .id rfl ⟨.inl rfl, trivial⟩⟩
set_option maxHeartbeats 3200000 in
set_option maxRecDepth 10000 in
theorem raddress_fc (m : MapN) (x : Int) (hl : m.N.length ≤ 140737488351232) (hr : ∀ k, m.N.getD k 0 < 18446744073709551616) :
    ∃ r : Int × Int, FC Try.prog 43 [nS m 0, int .i64 x] (nM m) (i2T r) (nM m) ∧ r = adrF m x := by
  refine FC.rj mix Try.func43 ?_
  repeat (first | refine And.intro (by kernel_rfl) ?_ | refine And.intro (by decide) ?_)
  refine FC.u (rcheck_fc m hl hr) [0] ?_
  repeat (first | refine And.intro (by kernel_rfl) ?_ | refine And.intro (by decide) ?_)
  refine bselN (fun h1 => ?_) (fun h1 => ?_)
  · repeat (first | refine And.intro (by kernel_rfl) ?_ | refine And.intro (by decide) ?_)
    exact ⟨(0, mcF m), by rw [adrF, if_pos h1], .id rfl ⟨.inl rfl, trivial⟩⟩
  have ok := (mc_iff m).1 h1
  obtain ⟨hs, hb⟩ := size_is ok.sh
  have hp := pow_small hb
  have hlo := ok.lo
  have hhi := ok.hi
  have hlen := ok.len
  have e1 : adrF m x = if x < 0 ∨ x ≥ sizeF m.s then (0, 2) else
    (if ((valF (inv10F m.N).1 x.toNat : Nat) : Int) ≥ m.lo then ((valF (inv10F m.N).1 x.toNat : Nat) : Int) + (m.hi - m.lo) else ((valF (inv10F m.N).1 x.toNat : Nat) : Int), 0) := by rw [adrF, if_neg (fun h => h h1)]
  repeat (first | refine And.intro (by kernel_rfl) ?_ | refine And.intro (by decide) ?_)
  refine bselD (fun h2 => ?_) (fun h2 => ?_)
  · repeat (first | refine And.intro (by kernel_rfl) ?_ | refine And.intro (by decide) ?_)
    exact ⟨(0, 2), by rw [e1, if_pos (.inl h2)], .id rfl ⟨.inl rfl, trivial⟩⟩
  refine FC.u (rsize_fc m.s) [] ?_
  refine bselD (fun h3 => ?_) (fun h3 => ?_)
  · repeat (first | refine And.intro (by kernel_rfl) ?_ | refine And.intro (by decide) ?_)
    exact ⟨(0, 2), by rw [e1, if_pos (.inr h3)], .id rfl ⟨.inl rfl, trivial⟩⟩
  rw [if_neg (by omega)] at e1
  obtain ⟨x, rfl⟩ : ∃ n : Nat, x = n := ⟨x.toNat, by omega⟩
  rw [Int.toNat_natCast] at e1
  have w1 : IntKind.u64.wrap (x : Int) = (x : Int) := wrapU64_in (by omega) (by omega)
  obtain ⟨io, _⟩ := inv_ok ok.ck (by omega)
  repeat refine AJoin.plain ?_
  refine FC.x (inverse10r_fc m.N hl hr) [0] (fun p ep => ?_)
  rw [← ep] at io e1
  clear ep
  obtain ⟨r, er⟩ := p
  simp only at io e1
  have hrl := io.len
  obtain ⟨w2, hv⟩ := val_i64 (N := r) (by omega) x
  have hpl := pow_small (show r.length ≤ 12 by omega)
  have w3 : IntKind.i64.wrap (m.hi - m.lo) = m.hi - m.lo := wrap64_in (by omega) (by omega)
  have w4 : IntKind.i64.wrap (((valF r x : Nat) : Int) + (m.hi - m.lo)) = ((valF r x : Nat) : Int) + (m.hi - m.lo) := wrap64_in (by omega) (by omega)
  repeat refine AJoin.plain ?_
  conv => whnf
  rw [w1]
  refine FC.u (value10r_fc r x (by omega) (fun k => lt64 (io.bd k) (by omega)) (by omega)) [2] ?_
  conv => whnf
  rw [w2]
  repeat refine AJoin.plain ?_
  refine bselD (fun h4 => ?_) (fun h4 => ?_)
  · repeat refine AJoin.plain ?_
    conv => whnf
    rw [w3, w4]
    repeat (first | refine And.intro (by kernel_rfl) ?_ | refine And.intro (by decide) ?_)
    exact ⟨(((valF r x : Nat) : Int) + (m.hi - m.lo), 0), by rw [e1, if_pos h4], .id rfl ⟨.inl rfl, trivial⟩⟩
  · repeat refine AJoin.plain ?_
    repeat (first | refine And.intro (by kernel_rfl) ?_ | refine And.intro (by decide) ?_)
    exact ⟨(((valF r x : Nat) : Int), 0), by rw [e1, if_neg h4], .id rfl ⟨.inl rfl, trivial⟩⟩
set_option maxHeartbeats 3200000 in
set_option maxRecDepth 10000 in
theorem rplace_fc (m : MapN) (x : Int) (hl : m.N.length ≤ 140737488351232) (hr : ∀ k, m.N.getD k 0 < 18446744073709551616) (hx : x ≤ 9223372036854775807) :
    ∃ r : S6 × Int, FC Try.prog 44 [nS m 0, int .i64 x] (nM m) (atT r) (nM m) ∧ r = plF m x := by
  refine FC.rj mix Try.func44 ?_
  repeat (first | refine And.intro (by kernel_rfl) ?_ | refine And.intro (by decide) ?_)
  refine FC.x (rlocate_fc m x hl hr hx) [0] (fun r er => ?_)
  have e1 : plF m x = if r.2 ≠ 0 then (zero6, r.2) else atF m.s r.1 := by rw [plF, ← er]
  clear er
  obtain ⟨y, e⟩ := r
  simp only at e1
  repeat (first | refine And.intro (by kernel_rfl) ?_ | refine And.intro (by decide) ?_)
  refine bselN (fun h1 => ?_) (fun h1 => ?_)
  · repeat (first | refine And.intro (by kernel_rfl) ?_ | refine And.intro (by decide) ?_)
    exact ⟨(zero6, e), by rw [e1, if_pos h1], .id rfl ⟨.inl rfl, trivial⟩⟩
  repeat refine AJoin.plain ?_
  refine FC.x (rat_fc m.s y) [] (fun q eq => ?_)
  repeat (first | refine And.intro (by kernel_rfl) ?_ | refine And.intro (by decide) ?_)
  exact ⟨q, by rw [e1, if_neg (fun h => h h1), eq], .id rfl ⟨.inl rfl, trivial⟩⟩
set_option maxHeartbeats 3200000 in
set_option maxRecDepth 10000 in
theorem rof_fc (m : MapN) (p : S6) (hl : m.N.length ≤ 140737488351232) (hr : ∀ k, m.N.getD k 0 < 18446744073709551616) :
    ∃ r : Int × Int, FC Try.prog 45 [nS m 0, s6S p] (nM m) (i2T r) (nM m) ∧ r = ofF m p := by
  refine FC.rj mix Try.func45 ?_
  repeat (first | refine And.intro (by kernel_rfl) ?_ | refine And.intro (by decide) ?_)
  refine FC.u (rcheck_fc m hl hr) [0] ?_
  repeat (first | refine And.intro (by kernel_rfl) ?_ | refine And.intro (by decide) ?_)
  refine bselN (fun h1 => ?_) (fun h1 => ?_)
  · repeat (first | refine And.intro (by kernel_rfl) ?_ | refine And.intro (by decide) ?_)
    exact ⟨(0, mcF m), by rw [ofF, if_pos h1], .id rfl ⟨.inl rfl, trivial⟩⟩
  repeat refine AJoin.plain ?_
  refine FC.x (rindex_fc m.s p) [] (fun r er => ?_)
  have e1 : ofF m p = if r.2 ≠ 0 then (0, r.2) else adrF m r.1 := by rw [ofF, if_neg (fun h => h h1), ← er]
  clear er
  obtain ⟨y, e⟩ := r
  simp only at e1
  repeat (first | refine And.intro (by kernel_rfl) ?_ | refine And.intro (by decide) ?_)
  refine bselN (fun h2 => ?_) (fun h2 => ?_)
  · repeat (first | refine And.intro (by kernel_rfl) ?_ | refine And.intro (by decide) ?_)
    exact ⟨(0, e), by rw [e1, if_pos h2], .id rfl ⟨.inl rfl, trivial⟩⟩
  repeat refine AJoin.plain ?_
  refine FC.x (raddress_fc m y hl hr) [0] (fun q eq => ?_)
  repeat (first | refine And.intro (by kernel_rfl) ?_ | refine And.intro (by decide) ?_)
  exact ⟨q, by rw [e1, if_neg (fun h => h h2), eq], .id rfl ⟨.inl rfl, trivial⟩⟩
set_option maxHeartbeats 3200000 in
set_option maxRecDepth 10000 in
theorem rnext_fc (m : MapN) (x : Int) (hl : m.N.length ≤ 140737488351232) (hr : ∀ k, m.N.getD k 0 < 18446744073709551616) (hx : x ≤ 9223372036854775807) :
    ∃ r : Int × Bool, FC Try.prog 46 [nS m 0, int .i64 x] (nM m) (ibT r) (nM m) ∧ r = nxF m x := by
  refine FC.rj mix Try.func46 ?_
  repeat (first | refine And.intro (by kernel_rfl) ?_ | refine And.intro (by decide) ?_)
  refine FC.u (rcheck_fc m hl hr) [0] ?_
  repeat (first | refine And.intro (by kernel_rfl) ?_ | refine And.intro (by decide) ?_)
  refine bselN (fun h1 => ?_) (fun h1 => ?_)
  · repeat (first | refine And.intro (by kernel_rfl) ?_ | refine And.intro (by decide) ?_)
    exact ⟨(0, false), by rw [nxF, if_pos h1], .id rfl ⟨.inl rfl, trivial⟩⟩
  have ok := (mc_iff m).1 h1
  obtain ⟨hs, hb⟩ := size_is ok.sh
  have hp := pow_small hb
  have hlo := ok.lo
  have hhi := ok.hi
  have hfit := ok.fit
  have e1 : nxF m x = if (normF m (if max x 0 ≥ m.lo then max (max x 0) m.hi else max x 0)).2 = true then ((if max x 0 ≥ m.lo then max (max x 0) m.hi else max x 0), true) else (0, false) := by rw [nxF, if_neg (fun h => h h1)]
  have w1 : IntKind.i64.wrap (m.hi - m.lo) = m.hi - m.lo := wrap64_in (by omega) (by omega)
  have w2 : IntKind.i64.wrap (IntKind.i64.wrap (m.hi - m.lo) + sizeF m.s) = m.hi - m.lo + sizeF m.s := by rw [w1]; exact wrap64_in (by omega) (by omega)
  have lowC : ∀ y : Int, 0 ≤ y → max x 0 = y → y < m.lo → nxF m x = (y, true) := fun y hy h h2 => by
    rw [e1, h, if_neg (show ¬ y ≥ m.lo by omega), if_pos]
    rw [normF, if_neg (by omega), if_pos h2]
  have hiC : ∀ y : Int, 0 ≤ y → max x 0 = y → ¬ y < m.lo → ∀ z, max y m.hi = z → nxF m x = if z < m.hi - m.lo + sizeF m.s then (z, true) else (0, false) := fun y hy h h2 z hz => by
    have hn : normF m z = (z - (m.hi - m.lo), decide (z - (m.hi - m.lo) < sizeF m.s)) := by rw [normF, if_neg (by omega), if_neg (by omega), if_neg (by omega)]
    rw [e1, h, if_pos (show y ≥ m.lo by omega), hz, hn]
    simp only [decide_eq_true_eq]
    by_cases c : z < m.hi - m.lo + sizeF m.s
    · rw [if_pos c, if_pos (by omega)]
    · rw [if_neg c, if_neg (by omega)]
  repeat refine AJoin.plain ?_
  refine FC.u (rsize_fc m.s) [] ?_
  repeat refine AJoin.plain ?_
  refine bselD (fun c1 => ?_) (fun c1 => ?_)
  · repeat refine AJoin.plain ?_
    refine bselD (fun c2 => ?_) (fun c2 => ?_)
    · repeat (first | refine And.intro (by kernel_rfl) ?_ | refine And.intro (by decide) ?_)
      exact ⟨_, (lowC 0 (by omega) (by omega) c2).symm, .id rfl ⟨.inl rfl, trivial⟩⟩
    repeat refine AJoin.plain ?_
    refine bselD (fun c3 => ?_) (fun c3 => ?_)
    · repeat refine AJoin.plain ?_
      refine bselD (fun c4 => ?_) (fun c4 => ?_)
      · repeat (first | refine And.intro (by kernel_rfl) ?_ | refine And.intro (by decide) ?_)
        exact ⟨_, by rw [hiC 0 (by omega) (by omega) c2 m.hi (by omega), if_pos (w2 ▸ c4)], .id rfl ⟨.inl rfl, trivial⟩⟩
      · repeat (first | refine And.intro (by kernel_rfl) ?_ | refine And.intro (by decide) ?_)
        exact ⟨_, by rw [hiC 0 (by omega) (by omega) c2 m.hi (by omega), if_neg (w2 ▸ c4)], .id rfl ⟨.inl rfl, trivial⟩⟩
    · repeat refine AJoin.plain ?_
      refine bselD (fun c4 => ?_) (fun c4 => ?_)
      · repeat (first | refine And.intro (by kernel_rfl) ?_ | refine And.intro (by decide) ?_)
        exact ⟨_, by rw [hiC 0 (by omega) (by omega) c2 0 (by omega), if_pos (w2 ▸ c4)], .id rfl ⟨.inl rfl, trivial⟩⟩
      · repeat (first | refine And.intro (by kernel_rfl) ?_ | refine And.intro (by decide) ?_)
        exact ⟨_, by rw [hiC 0 (by omega) (by omega) c2 0 (by omega), if_neg (w2 ▸ c4)], .id rfl ⟨.inl rfl, trivial⟩⟩
  · repeat refine AJoin.plain ?_
    refine bselD (fun c2 => ?_) (fun c2 => ?_)
    · repeat (first | refine And.intro (by kernel_rfl) ?_ | refine And.intro (by decide) ?_)
      exact ⟨_, (lowC x (by omega) (by omega) c2).symm, .id rfl ⟨.inl rfl, trivial⟩⟩
    repeat refine AJoin.plain ?_
    refine bselD (fun c3 => ?_) (fun c3 => ?_)
    · repeat refine AJoin.plain ?_
      refine bselD (fun c4 => ?_) (fun c4 => ?_)
      · repeat (first | refine And.intro (by kernel_rfl) ?_ | refine And.intro (by decide) ?_)
        exact ⟨_, by rw [hiC x (by omega) (by omega) c2 m.hi (by omega), if_pos (w2 ▸ c4)], .id rfl ⟨.inl rfl, trivial⟩⟩
      · repeat (first | refine And.intro (by kernel_rfl) ?_ | refine And.intro (by decide) ?_)
        exact ⟨_, by rw [hiC x (by omega) (by omega) c2 m.hi (by omega), if_neg (w2 ▸ c4)], .id rfl ⟨.inl rfl, trivial⟩⟩
    · repeat refine AJoin.plain ?_
      refine bselD (fun c4 => ?_) (fun c4 => ?_)
      · repeat (first | refine And.intro (by kernel_rfl) ?_ | refine And.intro (by decide) ?_)
        exact ⟨_, by rw [hiC x (by omega) (by omega) c2 x (by omega), if_pos (w2 ▸ c4)], .id rfl ⟨.inl rfl, trivial⟩⟩
      · repeat (first | refine And.intro (by kernel_rfl) ?_ | refine And.intro (by decide) ?_)
        exact ⟨_, by rw [hiC x (by omega) (by omega) c2 x (by omega), if_neg (w2 ▸ c4)], .id rfl ⟨.inl rfl, trivial⟩⟩
end Go.Sx.T1
namespace Go.Sx.T1
open Go.Proofs Go.Sx.Gf
/-! made maps with natural masks -/
structure MN where
  m : MapN
  k : Nat
def mapnM (ts : List Int) (x : MN) : Mem := [diceB ts x.k, diceL ts, u64n x.m.N true]
structure MadeN (s : S6) (m : MapN) : Prop where
  eq : m.s = s
  ok : McOk m
  bd : ∀ k, m.N.getD k 0 < 2 ^ bitsN s
  le : bitsN s ≤ 12
theorem mapn_fc (ts : List Int) (k : Nat) (s : S6) (hl : ts.length ≤ 400) (g : ShG 12 s) : ∃ x : MN, FC Try.prog 12 [.o (.c (.p 0 0 0)), s6S s] [diceB ts k, diceL ts] (nS x.m 2) (mapnM ts x) ∧ MadeN s x.m := by
  have nn := sum_nn g.lo
  have hb : sumTo s 6 = bitsN s := by unfold bitsN; omega
  have hb12 : bitsN s ≤ 12 := by have := g.sum; omega
  obtain ⟨⟨⟨s', M, lo, hi⟩, k'⟩, h, rfl, G⟩ := map_fcS ts k s (bitsN s) hl g hb
  have hb12 : bitsN s' ≤ 12 := hb12
  obtain ⟨ns, rfl, ho⟩ := (show Msk (bitsN s') M from G.msk).nat (by omega)
  have hsh : shB s' = true := shB_iff.2 g.v
  have hs := (size_is hsh).1
  have G1 := G.lo
  have G2 := G.hi
  have G3 := G.fit
  simp only at G1 G2 G3
  refine ⟨⟨⟨s', ns, lo, hi⟩, k'⟩, ?_, rfl, ⟨hsh, ho.len, ho.check (by omega), by simp only [hs]; exact G1, G2, by simp only [hs]; exact G3⟩, ho.bd, hb12⟩
  have e1 : mS ⟨s', zl ns, lo, hi⟩ 2 = nS ⟨s', ns, lo, hi⟩ 2 := by unfold mS nS mC nC; simp only [zl_len]
  rw [← e1]
  exact h
/-! there and back -/
theorem suf_pre (s : S6) : suf s 6 = preN s 6 := by
  simp only [suf, preN, Nat.reduceSub, Nat.sub_zero]; omega
theorem bits_pre {s : S6} (h : ShV s) : preN s 6 = bitsN s := by
  have := pre_sum h 6 (by omega)
  unfold bitsN; omega
theorem ix_at (s : S6) (x : Nat) (hx : x < 2 ^ suf s 6) : ∀ j, j ≤ 6 → ixN s (atS s x) j = x / 2 ^ suf s (6 - j)
  | 0, _ => by rw [ixN, Nat.div_eq_of_lt hx]
  | j + 1, hj => by
    have hj' : j < 6 := by omega
    rw [ixN, ix_at s x hx j (by omega), atS, mk6_get _ hj', Int.toNat_natCast, digF, show 6 - (j + 1) = 5 - j by omega, show 6 - j = (5 - j) + 1 by omega, suf, show 5 - (5 - j) = j by omega, Nat.pow_add, ← Nat.div_div_eq_div_mul]
    rw [Nat.mul_comm]
    exact Nat.div_add_mod _ _
theorem ixF_at {s : S6} (h : shB s = true) {x : Nat} (hx : (x : Int) < sizeF s) : ixF s (atS s x) = ((x : Int), 0) := by
  obtain ⟨hs, hb⟩ := size_is h
  have hv := shB_iff.1 h
  have hx' : x < 2 ^ suf s 6 := by rw [suf_pre, bits_pre hv]; omega
  have hp : vpB s (atS s x) = true := vpB_iff.2 ⟨hv, fun j hj => by
    rw [atS, mk6_get _ hj]
    refine ⟨by omega, Int.ofNat_lt.2 (Nat.mod_lt _ (Nat.two_pow_pos _))⟩⟩
  rw [ixF, h, hp, if_pos rfl, if_pos rfl, ix_at s x hx' 6 (by omega)]
  simp [suf]
/-- what belongs to an index -/
structure Belong (m : MapN) (i : Int) (a : Int) : Prop where
  adr : adrF m i = (a, 0)
  loc : locF m a = (i, 0)
  out : a < m.lo ∨ a ≥ m.hi
  pos : 0 ≤ a
  lt : a < 1048576
theorem belong {m : MapN} (ok : McOk m) {i : Int} (h0 : 0 ≤ i) (h1 : i < sizeF m.s) : ∃ a, Belong m i a := by
  obtain ⟨hs, hb⟩ := size_is ok.sh
  have hlen := ok.len
  have hlo := ok.lo
  have hhi := ok.hi
  have hfit := ok.fit
  obtain ⟨io, _⟩ := inv_ok ok.ck (by omega)
  obtain ⟨i, rfl⟩ : ∃ n : Nat, i = n := ⟨i.toNat, by omega⟩
  have hv : valF (inv10F m.N).1 i < 2 ^ m.N.length := by
    have := valF_lt (inv10F m.N).1 i
    rwa [io.len, show min m.N.length 64 = m.N.length by omega] at this
  have hi2 : i < 2 ^ m.N.length := by rw [hlen]; omega
  have key := (io.iff _ _ hv hi2).2 rfl
  have hvs : ((valF (inv10F m.N).1 i : Nat) : Int) < sizeF m.s := by rw [hs, ← hlen]; exact Int.ofNat_lt.2 hv
  have mc := (mc_iff m).2 ok
  have ea : adrF m (i : Int) = (if ((valF (inv10F m.N).1 i : Nat) : Int) ≥ m.lo then ((valF (inv10F m.N).1 i : Nat) : Int) + (m.hi - m.lo) else ((valF (inv10F m.N).1 i : Nat) : Int), 0) := by
    rw [adrF, if_neg (fun h => h mc), if_neg (by omega), Int.toNat_natCast]
  have fin : ∀ a : Int, normF m a = (((valF (inv10F m.N).1 i : Nat) : Int), true) → locF m a = ((i : Int), 0) := fun a ha => by
    rw [locF, if_neg (fun h => h mc), ha, if_neg (by simp)]
    simp only [Int.toNat_natCast, key]
  generalize hvv : ((valF (inv10F m.N).1 i : Nat) : Int) = v at hvs ea fin
  have hv0 : 0 ≤ v := by omega
  clear hvv
  by_cases c : v ≥ m.lo
  · rw [if_pos c] at ea
    refine ⟨v + (m.hi - m.lo), ea, fin _ ?_, .inr (by omega), by omega, by omega⟩
    rw [normF, if_neg (by omega), if_neg (by omega), if_neg (by omega), show v + (m.hi - m.lo) - (m.hi - m.lo) = v by omega]
    simp [hvs]
  · rw [if_neg c] at ea
    refine ⟨v, ea, fin _ ?_, .inl (by omega), hv0, by omega⟩
    rw [normF, if_neg (by omega), if_pos (by omega)]
theorem Belong.place {m : MapN} {i a : Int} (h : Belong m i a) : plF m a = atF m.s i := by
  rw [plF, h.loc]; rfl
theorem Belong.of {m : MapN} {i : Nat} {a : Int} (ok : McOk m) (h : Belong m i a) (h1 : (i : Int) < sizeF m.s) : ofF m (atS m.s i) = (a, 0) := by
  rw [ofF, if_neg (fun h => h ((mc_iff m).2 ok)), ixF_at ok.sh h1, if_neg (by simp), h.adr]
theorem at_in {s : S6} (h : shB s = true) {i : Nat} (h1 : (i : Int) < sizeF s) : atF s i = (atS s i, 0) := by
  rw [atF, h, if_pos rfl, if_pos ⟨by omega, h1⟩, Int.toNat_natCast]
/-! awake -/
def awM : MapN := ⟨⟨0, 0, 0, 0, 1, 0⟩, [1], 1, 3⟩
theorem awBd (k : Nat) : awM.N.getD k 0 < 18446744073709551616 := by
  rcases k with _ | k <;> simp [awM]
theorem aw3 : locF awM 3 = (1, 0) := by kernel_rfl
theorem aw2 : locF awM 2 = (0, 9) := by kernel_rfl
theorem awn : nxF awM 1 = (3, true) := by kernel_rfl
theorem awc : mcF awM = 0 := by kernel_rfl
theorem awl (x : Int) (r : Int × Int) (h : locF awM x = r) (hx : x ≤ 9223372036854775807) : FC Try.prog 16 [nS awM 0, int .i64 x] (nM awM) (i2T r) (nM awM) := by
  obtain ⟨q, f, e⟩ := locate_fc awM x (by decide) awBd hx
  rw [h] at e; subst e; exact f
theorem awx : FC Try.prog 21 [nS awM 0, int .i64 1] (nM awM) (ibT (3, true)) (nM awM) := by
  obtain ⟨q, f, e⟩ := mnext_fc awM 1 (by decide) awBd (by decide)
  rw [awn] at e; subst e; exact f
theorem awk : FC Try.prog 20 [nS awM 0] (nM awM) (int .i64 0) (nM awM) := by
  have := mcheck_fc awM (by decide) awBd
  rwa [awc] at this
set_option maxHeartbeats 3200000 in
set_option maxRecDepth 10000 in
theorem awake_fc : FC Try.prog 9 [] [] (boo true) [] := by
  refine FC.one (FC.r mix Try.func9 ?_)
  repeat (first | refine And.intro (by kernel_rfl) ?_ | refine And.intro (by decide) ?_)
  refine FC.u (awl 3 _ aw3 (by decide)) [0] ?_
  repeat (first | refine And.intro (by kernel_rfl) ?_ | refine And.intro (by decide) ?_)
  refine FC.u (awl 2 _ aw2 (by decide)) [0] ?_
  repeat (first | refine And.intro (by kernel_rfl) ?_ | refine And.intro (by decide) ?_)
  refine FC.u awx [0] ?_
  repeat (first | refine And.intro (by kernel_rfl) ?_ | refine And.intro (by decide) ?_)
  refine FC.u awk [0] ?_
  repeat (first | refine And.intro (by kernel_rfl) ?_ | refine And.intro (by decide) ?_)
  exact ⟨(), trivial, .id rfl trivial⟩
end Go.Sx.T1
namespace Go.Sx.T1
open Go.Proofs Go.Sx.Gf
theorem mod_x (n m : Int) (h1 : 1 ≤ m) (hm : m < 9223372036854775808) : ∃ v : Int, FC Try.prog 14 [int .i64 n, int .i64 m] [] (int .i64 v) [] ∧ 0 ≤ v ∧ v < m :=
  ⟨mMod n m, mod_fc n m hm, mMod_bd h1⟩
theorem MadeN.hl {s : S6} {m : MapN} (h : MadeN s m) : m.N.length ≤ 140737488351232 := by
  have h1 := h.ok.len
  have h2 := h.eq
  subst h2
  have h3 := h.le
  omega
theorem MadeN.hr {s : S6} {m : MapN} (h : MadeN s m) (k : Nat) : m.N.getD k 0 < 18446744073709551616 := lt64 (h.bd k) (by have := h.le; omega)
theorem adr_is {s : S6} {m : MapN} (h : MadeN s m) (i : Int) (r : Int × Int) (e : adrF m i = r) : FC Try.prog 15 [nS m 0, int .i64 i] (nM m) (i2T r) (nM m) := by
  obtain ⟨q, f, e'⟩ := address_fc m i h.hl h.hr
  rw [e] at e'; subst e'; exact f
theorem loc_is {s : S6} {m : MapN} (h : MadeN s m) (i : Int) (hi : i ≤ 9223372036854775807) (r : Int × Int) (e : locF m i = r) : FC Try.prog 16 [nS m 0, int .i64 i] (nM m) (i2T r) (nM m) := by
  obtain ⟨q, f, e'⟩ := locate_fc m i h.hl h.hr hi
  rw [e] at e'; subst e'; exact f
theorem pl_is {s : S6} {m : MapN} (h : MadeN s m) (i : Int) (hi : i ≤ 9223372036854775807) (r : S6 × Int) (e : plF m i = r) : FC Try.prog 17 [nS m 0, int .i64 i] (nM m) (atT r) (nM m) := by
  obtain ⟨q, f, e'⟩ := mplace_fc m i h.hl h.hr hi
  rw [e] at e'; subst e'; exact f
theorem of_is {s : S6} {m : MapN} (h : MadeN s m) (p : S6) (r : Int × Int) (e : ofF m p = r) : FC Try.prog 19 [nS m 0, s6S p] (nM m) (i2T r) (nM m) := by
  obtain ⟨q, f, e'⟩ := of_fc m p h.hl h.hr
  rw [e] at e'; subst e'; exact f
theorem nx_is {s : S6} {m : MapN} (h : MadeN s m) (i : Int) (hi : i ≤ 9223372036854775807) (r : Int × Bool) (e : nxF m i = r) : FC Try.prog 21 [nS m 0, int .i64 i] (nM m) (ibT r) (nM m) := by
  obtain ⟨q, f, e'⟩ := mnext_fc m i h.hl h.hr hi
  rw [e] at e'; subst e'; exact f
theorem chk_is {s : S6} {m : MapN} (h : MadeN s m) : FC Try.prog 20 [nS m 0] (nM m) (int .i64 0) (nM m) := by
  have := mcheck_fc m h.hl h.hr
  rwa [(mc_iff m).2 h.ok] at this
theorem at_is (s : S6) (i : Int) (r : S6 × Int) (e : atF s i = r) : FC Try.prog 18 [s6S s, int .i64 i] [] (atT r) [] := by
  obtain ⟨q, f, e'⟩ := at_fc s i
  rw [e] at e'; subst e'; exact f
end Go.Sx.T1
namespace Go.Sx.T1
open Go.Proofs Go.Sx.Gf
namespace Who
/-- the n-th address of a memory -/
def gA (m : MapN) (n : Nat) : Int := if (n : Int) < m.lo then n else n + (m.hi - m.lo)
def atA (m : MapN) : Nat → Int
  | 0 => 0
  | n + 1 => gA m n + 1
theorem gA_or (m : MapN) (n : Nat) : ((n : Int) < m.lo ∧ gA m n = n) ∨ (¬ (n : Int) < m.lo ∧ gA m n = n + (m.hi - m.lo)) := by
  unfold gA
  by_cases c : (n : Int) < m.lo
  · exact .inl ⟨c, if_pos c⟩
  · exact .inr ⟨c, if_neg c⟩
theorem gA_norm {m : MapN} (ok : McOk m) {n : Nat} : normF m (gA m n) = ((n : Int), decide ((n : Int) < sizeF m.s)) := by
  have h1 := ok.lo
  have h2 := ok.hi
  unfold gA
  split
  · rw [normF, if_neg (by omega), if_pos (by omega), decide_eq_true (by omega)]
  · rw [normF, if_neg (by omega), if_neg (by omega), if_neg (by omega), show (n : Int) + (m.hi - m.lo) - (m.hi - m.lo) = n by omega]
theorem next_at {m : MapN} (ok : McOk m) (n : Nat) : nxF m (atA m n) = if (n : Int) < sizeF m.s then (gA m n, true) else (0, false) := by
  have h1 := ok.lo
  have h2 := ok.hi
  have mc := (mc_iff m).2 ok
  have hz : (if max (atA m n) 0 ≥ m.lo then max (max (atA m n) 0) m.hi else max (atA m n) 0) = gA m n := by
    cases n with
    | zero =>
      have g := gA_or m 0
      show (if max (0 : Int) 0 ≥ m.lo then max (max (0 : Int) 0) m.hi else max (0 : Int) 0) = gA m 0
      by_cases c : max (0 : Int) 0 ≥ m.lo
      · rw [if_pos c]; omega
      · rw [if_neg c]; omega
    | succ k =>
      have g := gA_or m k
      have g2 := gA_or m (k + 1)
      show (if max (gA m k + 1) 0 ≥ m.lo then max (max (gA m k + 1) 0) m.hi else max (gA m k + 1) 0) = gA m (k + 1)
      by_cases c : max (gA m k + 1) 0 ≥ m.lo
      · rw [if_pos c]; omega
      · rw [if_neg c]; omega
  have e1 : nxF m (atA m n) = if (normF m (if max (atA m n) 0 ≥ m.lo then max (max (atA m n) 0) m.hi else max (atA m n) 0)).2 = true then ((if max (atA m n) 0 ≥ m.lo then max (max (atA m n) 0) m.hi else max (atA m n) 0), true) else (0, false) := by rw [nxF, if_neg (fun h => h mc)]
  rw [e1, hz, gA_norm ok]
  simp only [decide_eq_true_eq]
theorem loc_at {m : MapN} (ok : McOk m) {n : Nat} (h : (n : Int) < sizeF m.s) : locF m (gA m n) = (((valF m.N n : Nat) : Int), 0) := by
  have mc := (mc_iff m).2 ok
  rw [locF, if_neg (fun h => h mc), gA_norm ok, if_neg (by simp [h])]
  simp only [Int.toNat_natCast]
theorem at_le {m : MapN} (ok : McOk m) (n : Nat) : atA m n ≤ gA m n ∧ 0 ≤ atA m n := by
  have h1 := ok.lo
  have h2 := ok.hi
  cases n with
  | zero =>
    have g := gA_or m 0
    show (0 : Int) ≤ gA m 0 ∧ (0 : Int) ≤ 0
    omega
  | succ k =>
    have g := gA_or m k
    have g2 := gA_or m (k + 1)
    show gA m k + 1 ≤ gA m (k + 1) ∧ 0 ≤ gA m k + 1
    omega
theorem gA_lt {m : MapN} (ok : McOk m) {n : Nat} (h : (n : Int) < sizeF m.s) : gA m n < 1048576 := by
  have h1 := ok.lo
  have h2 := ok.hi
  have h3 := ok.fit
  unfold gA
  split <;> omega
def thr (N : List Nat) (size : Nat) : Nat → List Bool
  | 0 => List.replicate size false
  | n + 1 => (thr N size n).set (valF N n) true
theorem thr_len (N : List Nat) (size : Nat) : ∀ n, (thr N size n).length = size
  | 0 => by simp [thr]
  | n + 1 => by rw [thr, List.length_set, thr_len N size n]
theorem thr_no (N : List Nat) (size j : Nat) : ∀ n, (∀ k, k < n → valF N k ≠ j) → (thr N size n).getD j false = false
  | 0, _ => by
    simp only [thr, List.getD_eq_getElem?_getD, List.getElem?_replicate]
    split <;> rfl
  | n + 1, h => by
    rw [thr]
    have := thr_no N size j n fun k hk => h k (by omega)
    rw [List.getD_eq_getElem?_getD, List.getElem?_set_ne (h n (by omega)), ← List.getD_eq_getElem?_getD]
    exact this
set_option maxHeartbeats 3200000 in
set_option maxRecDepth 10000 in
theorem law (ts : List Int) : FC Try.prog 4 [.o (.c (.s 0 0 ts.length 1))] [diceL ts] (boo true) [diceL ts] := by
  refine FC.one (FC.rj mix Try.func4 ?_)
  repeat (first | refine And.intro (by kernel_rfl) ?_ | refine And.intro (by decide) ?_)
  refine FC.u (light_fc ts) [0] ?_
  refine bselNot (bselD (fun hl => ?_) (fun hl => ?_))
  rotate_left
  · repeat (first | refine And.intro (by kernel_rfl) ?_ | refine And.intro (by decide) ?_)
    refine FC.u awake_fc [] ?_
    exact ⟨(), trivial, .id rfl ⟨.inl rfl, trivial⟩⟩
  repeat refine AJoin.plain ?_
  refine FC.u (roll_fc ts) [0] ?_
  repeat (first | refine And.intro (by kernel_rfl) ?_ | refine And.intro (by decide) ?_)
  refine FC.x (shape_fc ts 0 7 hl (by omega)) [1, 0] (fun ⟨s, k1⟩ g7 => ?_)
  simp only at g7
  have g : ShG 12 s := ⟨g7.lo, by have := g7.sum; omega⟩
  repeat (first | refine And.intro (by kernel_rfl) ?_ | refine And.intro (by decide) ?_)
  refine FC.x (mapn_fc ts k1 s hl g) [1, 0] (fun ⟨m, k2⟩ gx => ?_)
  simp only at gx
  have g100 : ShG 100 s := ⟨g.lo, by have := g.sum; omega⟩
  have hsh : shB s = true := shB_iff.2 g.v
  obtain ⟨hs, hb⟩ := size_is hsh
  have nn := sum_nn g.lo
  have hbb : sumTo s 6 = bitsN s := by unfold bitsN; omega
  have bits := bits6_fc s g100
  rw [hbb] at bits
  obtain ⟨p1, p2, p3⟩ := pow_i64 (bitsN s) hb
  repeat (first | refine And.intro (by kernel_rfl) ?_ | refine And.intro (by decide) ?_)
  refine FC.u bits [] ?_
  have hu : 0 ≤ IntKind.u64.wrap (bitsN s : Int) := by rw [wrapU64_in (by omega) (by omega)]; omega
  refine And.intro hu ?_
  conv => whnf
  rw [p1]
  have hgx := gx
  obtain ⟨rfl, ok, bd, le⟩ := hgx
  have hlen := ok.len
  obtain ⟨io, _⟩ := inv_ok ok.ck (by omega)
  have vlt : ∀ n, valF m.N n < 2 ^ bitsN m.s := fun n => by
    have := valF_lt m.N n
    rwa [show min m.N.length 64 = m.N.length by omega, hlen] at this
  have vin : ∀ a b, a < 2 ^ bitsN m.s → b < 2 ^ bitsN m.s → valF m.N a = valF m.N b → a = b := fun a b ha hb2 e => by
    have h1 := (io.iff a (valF m.N a) (by rw [hlen]; exact ha) (by rw [hlen]; exact vlt a)).1 rfl
    have h2 := (io.iff b (valF m.N b) (by rw [hlen]; exact hb2) (by rw [hlen]; exact vlt b)).1 rfl
    rw [← h1, ← h2, e]
  generalize hz : 2 ^ bitsN m.s = z at p2 p3 vlt vin hs
  refine And.intro ⟨by omega, rfl, by omega⟩ ?_
  refine ALoop.go (X := Nat) (fun n => n ≤ z) (fun n => z - n) [4, 5, 6] [0, 2, 3, 4] (fun n => [(7, .o (.c (.s 5 0 z 1))), (8, int .i64 (atA m n)), (9, int .i64 n)]) (fun n => [(5, ⟨.bools (thr m.N z n), true⟩)]) 0 (Nat.zero_le _)
    ⟨congrArg (fun n => SV.o (.c (.s 5 0 n 1))) (Int.toNat_natCast z), rfl, rfl, trivial⟩ ⟨.inl (by rw [Int.toNat_natCast]; rfl), trivial⟩ ?_
  intro n hn
  have hal := at_le ok n
  have tl := thr_len m.N z n
  dsimp only [headF, headM]
  refine bselD (fun h => ?_) (fun h => ?_)
  · have h' : n < z := by omega
    have hns : (n : Int) < sizeF m.s := by omega
    have hg := gA_lt ok hns
    have en := next_at ok n
    rw [if_pos hns] at en
    have hvl := vlt n
    have wn : IntKind.i64.wrap ((n : Int) + 1) = ((n + 1 : Nat) : Int) := wrap64_in (by omega) (by omega)
    have wg : IntKind.i64.wrap (gA m n + 1) = gA m n + 1 := wrap64_in (by omega) (by omega)
    have hno : (thr m.N z n).getD (0 + ((valF m.N n : Nat) : Int).toNat) false = false := by
      rw [Nat.zero_add, Int.toNat_natCast]
      exact thr_no m.N z _ n fun k hk e => absurd (vin k n (by omega) h' e) (by omega)
    repeat refine AJoin.plain ?_
    refine FC.u (nx_is gx (atA m n) (by omega) _ en) [3] ?_
    repeat (first | refine And.intro (by kernel_rfl) ?_ | refine And.intro (by decide) ?_)
    refine FC.u (loc_is gx (gA m n) (by omega) _ (loc_at ok hns)) [3] ?_
    repeat (first | refine And.intro (by kernel_rfl) ?_ | refine And.intro (by decide) ?_)
    refine bselD (fun c => absurd c (by show ¬ gA m n < atA m n; omega)) (fun _ => ?_)
    repeat (first | refine And.intro (by kernel_rfl) ?_ | refine And.intro (by decide) ?_)
    refine bselD (fun c => absurd c (by show ¬ ((valF m.N n : Nat) : Int) ≥ (z : Int); omega)) (fun _ => ?_)
    refine And.intro ⟨by show (0 : Int) ≤ ((valF m.N n : Nat) : Int); omega, by show ((valF m.N n : Nat) : Int) < (z : Int); omega⟩ ?_
    refine And.intro (by show 0 + ((valF m.N n : Nat) : Int).toNat < (thr m.N z n).length; omega) ?_
    refine bselF hno ?_
    repeat refine AJoin.plain ?_
    refine And.intro ⟨by show (0 : Int) ≤ ((valF m.N n : Nat) : Int); omega, by show ((valF m.N n : Nat) : Int) < (z : Int); omega⟩ ?_
    refine And.intro (by show 0 + ((valF m.N n : Nat) : Int).toNat < (thr m.N z n).length; omega) ?_
    repeat (first | refine And.intro (by kernel_rfl) ?_ | refine And.intro (by decide) ?_)
    exact ⟨n + 1, ⟨h', by show z - (n + 1) < z - n; omega⟩, .id ⟨rfl, congrArg (int .i64) wg, congrArg (int .i64) wn, trivial⟩ rfl ⟨.inl (congrArg (fun k => some (⟨.bools ((thr m.N z n).set k true), true⟩ : Blk)) (by show 0 + ((valF m.N n : Nat) : Int).toNat = valF m.N n; omega)), trivial⟩ rfl⟩
  · obtain rfl : n = z := by omega
    have en := next_at ok n
    rw [if_neg (by omega)] at en
    have hlo := ok.lo
    have hhi := ok.hi
    have hfit := ok.fit
    have hag := gA_or m n
    have rck := rcheck_fc m gx.hl gx.hr
    rw [(mc_iff m).2 ok] at rck
    repeat refine AJoin.plain ?_
    refine FC.u (nx_is gx (atA m n) (by omega) _ en) [3] ?_
    repeat (first | refine And.intro (by kernel_rfl) ?_ | refine And.intro (by decide) ?_)
    refine FC.u awake_fc [] ?_
    repeat (first | refine And.intro (by kernel_rfl) ?_ | refine And.intro (by decide) ?_)
    refine FC.u rck [3] ?_
    repeat (first | refine And.intro (by kernel_rfl) ?_ | refine And.intro (by decide) ?_)
    refine FC.u (rsize_fc m.s) [] ?_
    repeat (first | refine And.intro (by kernel_rfl) ?_ | refine And.intro (by decide) ?_)
    exact ⟨(), trivial, .id (congrArg boo (by rw [hs]; simp)) ⟨.inl rfl, trivial⟩⟩
end Who
end Go.Sx.T1
