/- Contracts of the functions that BitmatInverts reaches, and the walk of the law, part 2. Conditions: none. -/
import Derived.Test.YtphmlacpgnjhfaaDoorBitmatInvertsA
namespace Go.Sx.T1
open Go.Proofs Go.Sx.Gf
def mkS (x : MX) : SV := .o (.c (.s 2 0 x.rows.length 1))
theorem other {b p d : Nat} (hp : p < b) (hd : d + 1 < b) : (p + 1 + d) % b < b ∧ (p + 1 + d) % b ≠ p := by
  refine ⟨Nat.mod_lt _ (by omega), ?_⟩
  by_cases h : p + 1 + d < b
  · rw [Nat.mod_eq_of_lt h]; omega
  · rw [Nat.mod_eq_sub_mod (by omega), Nat.mod_eq_of_lt (by omega)]; omega
set_option maxHeartbeats 3200000 in
set_option maxRecDepth 10000 in
theorem masks_fc (ts : List Int) (k b : Nat) (hl : ts.length ≤ 400) (hb : b ≤ 60) :
    ∃ x : MX, FC Tryd.prog 17 [.o (.c (.p 0 0 0)), int .i64 b] [diceB ts k, diceL ts] (mkS x) (mxM ts x) ∧ MkOk b x.rows := by
  refine FC.rj mix Tryd.func17 ?_
  repeat (first | refine And.intro (by kernel_rfl) ?_ | refine And.intro (by decide) ?_)
  refine ALoop.goN (X := Nat) (fun i => i ≤ b) (fun i => b - i) [0, 1] [0, 1] (fun i => [(5, .o (.c (.s 2 0 (units i).length 1))), (6, int .i64 i)]) (fun i => [(2, ⟨.ints .u64 (zl (units i)), true⟩)]) 0 3
    (Nat.zero_le _) (isAt.go [(2, .new 1)] ⟨rfl, rfl, trivial⟩ ⟨newI 1 rfl, trivial⟩) ?_
  intro i hi
  have ul := units_len i
  dsimp only [headF, headM]
  refine bselD (fun h => ?_) (fun h => ?_)
  · have h' : i < b := by omega
    have wi : IntKind.i64.wrap ((i : Int) + 1) = ((i + 1 : Nat) : Int) := wrap64_in (by omega) (by omega)
    have ui : IntKind.u64.wrap (i : Int) = (i : Int) := wrapU64_in (by omega) (by omega)
    repeat refine AJoin.plain ?_
    conv => whnf
    rw [ui]
    refine And.intro (by omega) ?_
    refine And.intro ⟨by show 0 + (units i).length ≤ (zl (units i)).length; rw [zl_len]; omega, trivial⟩ ?_
    refine And.intro ⟨Nat.le_of_ble_eq_true rfl, trivial⟩ ?_
    refine And.intro (by show (units i).length + 1 ≤ 4294967296; omega) ?_
    repeat (first | refine And.intro (by kernel_rfl) ?_ | refine And.intro (by decide) ?_)
    have e1 : (units i).length + 1 = (units (i + 1)).length := by rw [units_len, units_len]
    refine ⟨i + 1, ⟨h', by show b - (i + 1) < b - i; omega⟩, isAt.go [(2, .to 4)] ⟨congrArg (fun n : Nat => SV.o (.c (.s 4 0 n 1))) e1, congrArg (int .i64) wi, trivial⟩ ⟨leB.ints_eq ?_ id, trivial⟩⟩
    show List.take (units i).length (List.drop 0 (zl (units i))) ++ List.take 1 (List.drop 0 [IntKind.u64.wrap (1 * 2 ^ min (i : Int).toNat IntKind.u64.bits)]) = zl (units (i + 1))
    rw [one_shl (by omega), app1, units_succ]
  · obtain rfl : i = b := by omega
    have w3 : IntKind.i64.wrap (IntKind.i64.wrap (3 * (i : Int)) + 1) = 3 * (i : Int) + 1 := by rw [wrap64_in (n := 3 * (i : Int)) (by omega) (by omega), wrap64_in (by omega) (by omega)]
    repeat refine AJoin.plain ?_
    conv => whnf
    rw [w3]
    have d3 := dv_bd ts k (n := 3 * (i : Int) + 1) (by omega)
    refine FC.x (next_x ts k (3 * (i : Int) + 1) (by omega) hl) [0, 1] (fun n en => ?_)
    rw [← en] at d3
    clear en
    obtain ⟨n, rfl⟩ : ∃ m : Nat, n = m := ⟨n.toNat, by omega⟩
    repeat refine AJoin.plain ?_
    refine ALoop.go (X := MXw) (fun x => x.n ≤ 200 ∧ MkOk i x.rows) (fun x => x.n) [0, 1] [1] (fun x => [(5, .o (.c (.s 2 0 x.rows.length 1))), (7, int .i64 x.n)])
      (fun x => [(0, ⟨.box [.s 1 0 ts.length 1, .v (.int .i64 (min x.k ts.length : Nat))], true⟩), (2, ⟨.ints .u64 (zl x.rows), true⟩)]) ⟨n, k + 1, units i⟩
      ⟨by show n ≤ 200; omega, ul, units_bd i, Ker0.units i⟩ ⟨rfl, rfl, trivial⟩ ⟨.inl rfl, .inl rfl, trivial⟩ ?_
    clear h w3 d3
    rintro ⟨n, k, rows⟩ ⟨hn, hm⟩
    simp only at hn hm
    have hrl := hm.len
    dsimp only [headF, headM]
    refine bselD (fun h => ?_) (fun h => ?_)
    · refine bselD (fun h2 => ?_) (fun h2 => ?_)
      · have h0 : 0 < n := by have : (n : Int) > 0 := h; omega
        have wn : IntKind.i64.wrap ((n : Int) - 1) = ((n - 1 : Nat) : Int) := by rw [wrap64_in (by omega) (by omega)]; omega
        have wb : IntKind.i64.wrap ((i : Int) - 1) = (i : Int) - 1 := wrap64_in (by omega) (by omega)
        repeat refine AJoin.plain ?_
        have da := dv_bd ts k (n := (i : Int)) (by omega)
        refine FC.x (next_x ts k i (by omega) hl) [0, 1] (fun a ea => ?_)
        rw [← ea] at da
        clear ea
        repeat refine AJoin.plain ?_
        conv => whnf
        rw [wb]
        have dd := dv_bd ts (k + 1) (n := (i : Int) - 1) (by omega)
        refine FC.x (next_x ts (k + 1) ((i : Int) - 1) (by omega) hl) [0, 1] (fun d ed => ?_)
        rw [← ed] at dd
        clear ed
        obtain ⟨p, rfl⟩ : ∃ p : Nat, a = p := ⟨a.toNat, by omega⟩
        obtain ⟨d, rfl⟩ : ∃ e : Nat, d = e := ⟨d.toNat, by omega⟩
        have et : (IntKind.i64.wrap (IntKind.i64.wrap ((p : Int) + 1) + (d : Int))).tmod (i : Int) = (((p + 1 + d) % i : Nat) : Int) := by
          rw [wrap64_in (n := (p : Int) + 1) (by omega) (by omega), wrap64_in (by omega) (by omega), Int.tmod_eq_emod_of_nonneg (by omega), show (p : Int) + 1 + d = ((p + 1 + d : Nat) : Int) by omega]
          exact (Int.natCast_emod _ _).symm
        obtain ⟨q1, q2⟩ := other (b := i) (p := p) (d := d) (by omega) (by omega)
        refine And.intro (by omega) ?_
        conv => whnf
        rw [et]
        generalize (p + 1 + d) % i = q at q1 q2
        repeat refine AJoin.plain ?_
        refine And.intro ⟨by omega, by omega⟩ ?_
        refine And.intro (by show 0 + (p : Int).toNat < (zl rows).length; rw [zl_len]; omega) ?_
        refine And.intro ⟨by omega, by omega⟩ ?_
        refine And.intro (by show 0 + (q : Int).toNat < (zl rows).length; rw [zl_len]; omega) ?_
        refine And.intro ⟨by omega, by omega⟩ ?_
        refine And.intro (by show 0 + (p : Int).toNat < (zl rows).length; rw [zl_len]; omega) ?_
        repeat (first | refine And.intro (by kernel_rfl) ?_ | refine And.intro (by decide) ?_)
        have ep : 0 + (p : Int).toNat = p := by simp
        have eq : 0 + (q : Int).toNat = q := by simp
        have hb64 : ∀ k, rows.getD k 0 < 18446744073709551616 := fun k => lt64 (hm.bd k) (by omega)
        have key : (zl rows).set (0 + (p : Int).toNat) (bitI .xor .u64 ((zl rows).getD (0 + (p : Int).toNat) 0) ((zl rows).getD (0 + (q : Int).toNat) 0)) = zl (rows.set p (rows.getD p 0 ^^^ rows.getD q 0)) := by
          rw [ep, eq, zl_get, zl_get, xor_u64 (hb64 p) (hb64 q), zl_set]
        exact ⟨⟨n - 1, k + 1 + 1, rows.set p (rows.getD p 0 ^^^ rows.getD q 0)⟩, ⟨⟨by show n - 1 ≤ 200; omega, by simpa using hrl, set_bd hm.bd (xor_lt (hm.bd p) (hm.bd q)), hm.ker.step (by omega) (by omega) (Ne.symm q2)⟩, by show n - 1 < n; omega⟩,
          .id ⟨congrArg (fun n : Nat => SV.o (.c (.s 2 0 n 1))) (show rows.length = (rows.set p (rows.getD p 0 ^^^ rows.getD q 0)).length by simp), congrArg (int .i64) wn, trivial⟩ rfl ⟨.inl rfl, leB.ints_eq key id, trivial⟩ rfl⟩
      · repeat refine AJoin.plain ?_
        repeat (first | refine And.intro (by kernel_rfl) ?_ | refine And.intro (by decide) ?_)
        exact ⟨⟨rows, k⟩, hm, .id rfl ⟨.inl rfl, .inl rfl, .inl rfl, trivial⟩⟩
    · repeat refine AJoin.plain ?_
      repeat (first | refine And.intro (by kernel_rfl) ?_ | refine And.intro (by decide) ?_)
      exact ⟨⟨rows, k⟩, hm, .id rfl ⟨.inl rfl, .inl rfl, .inl rfl, trivial⟩⟩
end Go.Sx.T1
namespace Go.Sx.T1
open Go.Proofs Go.Sx.Gf
theorem inv0 : invF 2 [3, 2] = ⟨2, [3, 2], 0⟩ := by kernel_rfl
theorem rank0 : rankF 2 [1, 2, 3] = 2 := by kernel_rfl
theorem inv0_fc : FC Tryd.prog 18 [.o (.a [.v (.int .i64 2), .s 0 0 2 1])] [some ⟨.ints .u64 [3, 2], false⟩] (.t [.a [.v (.int .i64 2), .s 1 0 2 1], .c (.v (.int .i64 0))]) [some ⟨.ints .u64 [3, 2], false⟩, some ⟨.ints .u64 [3, 2], true⟩] := by
  obtain ⟨d, h, e⟩ := inverse_fc 2 [3, 2] (by decide) (fun k => by rcases k with _ | _ | k <;> simp)
  rw [inv0] at e
  subst e
  exact h
theorem rank0_fc : FC Tryd.prog 15 [.o (.a [.v (.int .i64 2), .s 0 0 3 1])] [some ⟨.ints .u64 [1, 2, 3], false⟩] (int .i64 2) [some ⟨.ints .u64 [1, 2, 3], false⟩] := by
  have h := rank_fc 2 [1, 2, 3] (by decide) (fun k => by rcases k with _ | _ | _ | k <;> simp)
  rw [rank0] at h
  exact h
set_option maxHeartbeats 3200000 in
set_option maxRecDepth 10000 in
theorem awake_fc : FC Tryd.prog 8 [] [] (boo true) [] := by
  refine FC.one (FC.r mix Tryd.func8 ?_)
  repeat (first | refine And.intro (by kernel_rfl) ?_ | refine And.intro (by decide) ?_)
  refine FC.u inv0_fc [0] ?_
  repeat (first | refine And.intro (by kernel_rfl) ?_ | refine And.intro (by decide) ?_)
  refine FC.u rank0_fc [4] ?_
  repeat (first | refine And.intro (by kernel_rfl) ?_ | refine And.intro (by decide) ?_)
  exact ⟨(), trivial, .id rfl trivial⟩
end Go.Sx.T1
namespace Go.Sx.T1
open Go.Proofs
set_option maxRecDepth 10000 in
theorem one_fc (ts : List Int) (k : Nat) (n : Int) (hn : n < 9223372036854775808) (hn1 : 1 ≤ n) (hl : ts.length ≤ 400) :
    FC Tryd.prog 16 [.o (.c (.p 0 0 0)), int .i64 n] [diceB ts k, diceL ts] (boo (dv ts k n == n - 1)) [diceB ts (k + 1), diceL ts] := by
  refine FC.b mix Tryd.func16 ?_
  refine FC.u (next_fc ts k n hn hl) [0, 1] ?_
  exact ⟨congrArg (fun x => boo (dv ts k n == x)) (wrap64_in (by omega) (by omega)), rfl, rfl, trivial⟩

theorem one_x (ts : List Int) (k : Nat) (n : Int) (hn : n < 9223372036854775808) (hn1 : 1 ≤ n) (hl : ts.length ≤ 400) :
    ∃ v, FC Tryd.prog 16 [.o (.c (.p 0 0 0)), int .i64 n] [diceB ts k, diceL ts] (boo v) [diceB ts (k + 1), diceL ts] ∧ v = (dv ts k n == n - 1) := ⟨_, one_fc ts k n hn hn1 hl, rfl⟩
end Go.Sx.T1
namespace Go.Sx.T1
open Go.Proofs Go.Sx.Gf
namespace Ivs
/-- the mask of the n lowest bits -/
theorem mask_form {v n : Nat} (hv : v < 18446744073709551616) (hn : n < 64) : bitI .and .u64 (v : Int) (IntKind.u64.wrap (IntKind.u64.wrap (1 * 2 ^ min (IntKind.u64.wrap (n : Int)).toNat IntKind.u64.bits) - 1)) = ((v % 2 ^ n : Nat) : Int) := by
  have h1 := Nat.two_pow_pos n
  have h2 : (2 ^ n : Nat) < 18446744073709551616 := lt64 (Nat.pow_lt_pow_right (a := 2) (by omega) hn) (Nat.le_refl 64)
  rw [wrapU64_in (n := (n : Int)) (by omega) (by omega), one_shl hn, wrapU64_in (by omega) (by omega), show ((2 ^ n : Nat) : Int) - 1 = ((2 ^ n - 1 : Nat) : Int) by omega, and_u64 hv (by omega), and_mask]
theorem w1 (v : Nat) (h : v < 100) : IntKind.i64.wrap (1 + (v : Int)) = ((v + 1 : Nat) : Int) := by rw [wrap64_in (by omega) (by omega)]; omega
theorem invL {n : Nat} {a : List Nat} (h : Mx n n a) (l : Nat) (e : a.length = l) (d : MD) (hd : invF n a = d) :
    FC Tryd.prog 18 [.o (.a [.v (.int .i64 n), .s 0 0 l 1])] [u64n a false] (mdS 1 d) [u64n a false, u64n d.rows true] := by
  subst e
  obtain ⟨d', f, ed⟩ := inverse_fc n a h.hl h.hr
  rw [hd] at ed; subst ed; exact f
theorem appL {r c : Nat} {a : List Nat} (h : Mx r c a) (l : Nat) (e : a.length = l) (v : Nat) (hv : v < 2 ^ c) :
    FC Tryd.prog 19 [.o (.a [.v (.int .i64 c), .s 0 0 l 1]), int .u64 v] [u64n a false] (niS (apF a v r, 0)) [u64n a false] := by
  subst e
  obtain ⟨p, f, ed⟩ := applyM_fc c a v h.hl h.hr (lt64 hv h.c1.2)
  have e1 : applyF c a v = (apF a v r, 0) := by rw [applyF, if_pos h.ok, Int.toNat_natCast, if_pos hv, h.len]
  rw [e1] at ed; subst ed; exact f
theorem unitL {n : Nat} (h : 1 ≤ n ∧ n ≤ 64) : FC Tryd.prog 20 [int .i64 n] [] (.t [.a [.v (.int .i64 n), .s 0 0 n 1], .c (.v (.int .i64 0))]) [u64n (units n) true] := by
  obtain ⟨d, f, ed⟩ := unit_fc n
  have e1 : unitF n = ⟨n, units n, 0⟩ := by rw [unitF, if_pos (by simp [sideB]; omega), Int.toNat_natCast]
  rw [e1] at ed
  subst ed
  have e2 : mdS 0 ⟨n, units n, 0⟩ = .t [.a [.v (.int .i64 n), .s 0 0 n 1], .c (.v (.int .i64 0))] := by unfold mdS; simp only [units_len]
  rw [e2] at f
  exact f
set_option maxHeartbeats 3200000 in
set_option maxRecDepth 10000 in
theorem lawN (ts : List Int) (v : Nat) (hv : v < 18446744073709551616) : FC Tryd.prog 4 [.o (.c (.s 0 0 ts.length 1)), int .u64 v] [diceL ts, tabB] (boo true) [diceL ts, tabB] := by
  refine FC.one (FC.rj mix Tryd.func4 ?_)
  repeat (first | refine And.intro (by kernel_rfl) ?_ | refine And.intro (by decide) ?_)
  refine FC.u (light_fc ts) [0] ?_
  refine bselNot (bselD (fun hl => ?_) (fun hl => ?_))
  rotate_left
  · repeat (first | refine And.intro (by kernel_rfl) ?_ | refine And.intro (by decide) ?_)
    refine FC.u awake_fc [] ?_
    exact ⟨(), trivial, .id rfl ⟨.inl rfl, .inl rfl, trivial⟩⟩
  repeat refine AJoin.plain ?_
  refine FC.u (roll_fc ts) [0] ?_
  repeat (first | refine And.intro (by kernel_rfl) ?_ | refine And.intro (by decide) ?_)
  have d1 := dv_bd ts 0 (n := 12) (by omega)
  refine FC.x (next_x ts 0 12 (by omega) hl) [2, 0] (fun n en => ?_)
  rw [← en] at d1
  clear en
  obtain ⟨n, rfl⟩ : ∃ z : Nat, n = z := ⟨n.toNat, by omega⟩
  repeat (first | refine And.intro (by kernel_rfl) ?_ | refine And.intro (by decide) ?_)
  conv => whnf
  rw [w1 n (by omega)]
  refine FC.x (matrix_fc ts 1 (n + 1) (n + 1) hl (by omega) (by omega)) [2, 0] (fun A hA => ?_)
  have ma : Mx (n + 1) (n + 1) A.rows := ⟨hA.1, hA.2, by omega, by omega⟩
  have mv := mask_form (v := v) (n := n + 1) hv (by omega)
  have bv : v % 2 ^ (n + 1) < 2 ^ (n + 1) := Nat.mod_lt _ (Nat.two_pow_pos _)
  repeat refine AJoin.plain ?_
  refine FC.u (one_fc ts A.k 2 (by omega) (by omega) hl) [2, 0] ?_
  refine bsel_intro (fun h1 => ?_) (fun h1 => ?_)
  · repeat refine AJoin.plain ?_
    refine FC.x (masks_fc ts (A.k + 1) (n + 1) hl (by omega)) [2, 0] (fun X hX => ?_)
    have mx : Mx (n + 1) (n + 1) X.rows := ⟨hX.len, hX.bd, by omega, by omega⟩
    repeat refine AJoin.plain ?_
    repeat (first | refine And.intro (by kernel_rfl) ?_ | refine And.intro (by decide) ?_)
    rcases inv_m mx with ⟨c1, c2⟩ | ⟨c1, R, c2, gR, iff⟩
    · refine FC.u (invL mx _ rfl _ c2) [5] ?_
      repeat (first | refine And.intro (by kernel_rfl) ?_ | refine And.intro (by decide) ?_)
      refine FC.u awake_fc [] ?_
      repeat (first | refine And.intro (by kernel_rfl) ?_ | refine And.intro (by decide) ?_)
      refine FC.u (rankL mx _ rfl) [5] ?_
      repeat (first | refine And.intro (by kernel_rfl) ?_ | refine And.intro (by decide) ?_)
      refine bselF (show (false != (((rk (n + 1) _ : Nat) : Int) == ((n + 1 : Nat) : Int))) = false by rw [beq_false_of_ne (by omega)]; rfl) ?_
      repeat (first | refine And.intro (by kernel_rfl) ?_ | refine And.intro (by decide) ?_)
      exact ⟨(), trivial, .id rfl ⟨.inl rfl, .inl rfl, trivial⟩⟩
    · obtain ⟨bk, mu⟩ := back mx gR iff
      refine FC.u (invL mx _ rfl _ c2) [5] ?_
      repeat (first | refine And.intro (by kernel_rfl) ?_ | refine And.intro (by decide) ?_)
      refine FC.u awake_fc [] ?_
      repeat (first | refine And.intro (by kernel_rfl) ?_ | refine And.intro (by decide) ?_)
      refine FC.u (rankL mx _ rfl) [5] ?_
      repeat (first | refine And.intro (by kernel_rfl) ?_ | refine And.intro (by decide) ?_)
      refine bselF (show (true != (((rk (n + 1) _ : Nat) : Int) == ((n + 1 : Nat) : Int))) = false by rw [c1]; simp) ?_
      have hu : 0 ≤ IntKind.u64.wrap (((n + 1 : Nat) : Int)) := by rw [wrapU64_in (by omega) (by omega)]; omega
      have bw := (apM mx (v % 2 ^ (n + 1))).1
      have bkv := bk _ bv
      repeat (first | refine And.intro (by kernel_rfl) ?_ | refine And.intro (by decide) ?_)
      refine And.intro hu ?_
      conv => whnf
      rw [mv]
      refine FC.u (appL mx _ rfl (v % 2 ^ (n + 1)) bv) [5] ?_
      repeat (first | refine And.intro (by kernel_rfl) ?_ | refine And.intro (by decide) ?_)
      refine FC.u (appL gR _ rfl _ bw) [6] ?_
      repeat (first | refine And.intro (by kernel_rfl) ?_ | refine And.intro (by decide) ?_)
      refine FC.u (mulL gR mx _ _ rfl rfl) [6, 5, 1] ?_
      repeat (first | refine And.intro (by kernel_rfl) ?_ | refine And.intro (by decide) ?_)
      refine FC.u (unitL (n := n + 1) (by omega)) [] ?_
      repeat (first | refine And.intro (by kernel_rfl) ?_ | refine And.intro (by decide) ?_)
      refine bselT (by simp [bkv]) ?_
      repeat (first | refine And.intro (by kernel_rfl) ?_ | refine And.intro (by decide) ?_)
      refine FC.u (same05_fc _ _ _ mu _ _ (gR.mul mx).len (units_len _) (by rw [(gR.mul mx).len]; omega)) [8, 10] ?_
      repeat (first | refine And.intro (by kernel_rfl) ?_ | refine And.intro (by decide) ?_)
      exact ⟨(), trivial, .id rfl ⟨.inl rfl, .inl rfl, trivial⟩⟩
  · repeat refine AJoin.plain ?_
    repeat (first | refine And.intro (by kernel_rfl) ?_ | refine And.intro (by decide) ?_)
    rcases inv_m ma with ⟨c1, c2⟩ | ⟨c1, R, c2, gR, iff⟩
    · refine FC.u (invL ma _ rfl _ c2) [3] ?_
      repeat (first | refine And.intro (by kernel_rfl) ?_ | refine And.intro (by decide) ?_)
      refine FC.u awake_fc [] ?_
      repeat (first | refine And.intro (by kernel_rfl) ?_ | refine And.intro (by decide) ?_)
      refine FC.u (rankL ma _ rfl) [3] ?_
      repeat (first | refine And.intro (by kernel_rfl) ?_ | refine And.intro (by decide) ?_)
      refine bselF (show (false != (((rk (n + 1) _ : Nat) : Int) == ((n + 1 : Nat) : Int))) = false by rw [beq_false_of_ne (by omega)]; rfl) ?_
      repeat (first | refine And.intro (by kernel_rfl) ?_ | refine And.intro (by decide) ?_)
      exact ⟨(), trivial, .id rfl ⟨.inl rfl, .inl rfl, trivial⟩⟩
    · obtain ⟨bk, mu⟩ := back ma gR iff
      refine FC.u (invL ma _ rfl _ c2) [3] ?_
      repeat (first | refine And.intro (by kernel_rfl) ?_ | refine And.intro (by decide) ?_)
      refine FC.u awake_fc [] ?_
      repeat (first | refine And.intro (by kernel_rfl) ?_ | refine And.intro (by decide) ?_)
      refine FC.u (rankL ma _ rfl) [3] ?_
      repeat (first | refine And.intro (by kernel_rfl) ?_ | refine And.intro (by decide) ?_)
      refine bselF (show (true != (((rk (n + 1) _ : Nat) : Int) == ((n + 1 : Nat) : Int))) = false by rw [c1]; simp) ?_
      have hu : 0 ≤ IntKind.u64.wrap (((n + 1 : Nat) : Int)) := by rw [wrapU64_in (by omega) (by omega)]; omega
      have bw := (apM ma (v % 2 ^ (n + 1))).1
      have bkv := bk _ bv
      repeat (first | refine And.intro (by kernel_rfl) ?_ | refine And.intro (by decide) ?_)
      refine And.intro hu ?_
      conv => whnf
      rw [mv]
      refine FC.u (appL ma _ rfl (v % 2 ^ (n + 1)) bv) [3] ?_
      repeat (first | refine And.intro (by kernel_rfl) ?_ | refine And.intro (by decide) ?_)
      refine FC.u (appL gR _ rfl _ bw) [5] ?_
      repeat (first | refine And.intro (by kernel_rfl) ?_ | refine And.intro (by decide) ?_)
      refine FC.u (mulL gR ma _ _ rfl rfl) [5, 3, 1] ?_
      repeat (first | refine And.intro (by kernel_rfl) ?_ | refine And.intro (by decide) ?_)
      refine FC.u (unitL (n := n + 1) (by omega)) [] ?_
      repeat (first | refine And.intro (by kernel_rfl) ?_ | refine And.intro (by decide) ?_)
      refine bselT (by simp [bkv]) ?_
      repeat (first | refine And.intro (by kernel_rfl) ?_ | refine And.intro (by decide) ?_)
      refine FC.u (same05_fc _ _ _ mu _ _ (gR.mul ma).len (units_len _) (by rw [(gR.mul ma).len]; omega)) [7, 9] ?_
      repeat (first | refine And.intro (by kernel_rfl) ?_ | refine And.intro (by decide) ?_)
      exact ⟨(), trivial, .id rfl ⟨.inl rfl, .inl rfl, trivial⟩⟩
theorem law (ts : List Int) (v : Int) (hv : 0 ≤ v ∧ v ≤ 18446744073709551615) : FC Tryd.prog 4 [.o (.c (.s 0 0 ts.length 1)), int .u64 v] [diceL ts, tabB] (boo true) [diceL ts, tabB] := by
  obtain ⟨v, rfl⟩ : ∃ n : Nat, v = n := ⟨v.toNat, by omega⟩
  exact lawN ts v (by omega)
end Ivs
end Go.Sx.T1
