/- Contracts of the functions that MappingHoles reaches, and the walk of the law, part 2. Conditions: none. -/
import Derived.Test.YtpekokcpcllipaaMappingHolesA
namespace Go.Sx.T1
open Go.Proofs Go.Sx.Gf
theorem MkOk.check {b : Nat} {N : List Nat} (h : MkOk b N) (hb : b ≤ 60) : checkF N = 0 := by
  have hl := h.len
  unfold checkF
  rw [if_neg (by omega)]
  by_cases h0 : N.length = 0
  · rw [if_pos h0]
  · have ho : okM N.length N = true := by
      simp only [okM, sideB, Bool.and_eq_true, decide_eq_true_eq, List.all_eq_true]
      refine ⟨⟨by omega, by omega⟩, ⟨by omega, by omega⟩, fun v hv => ?_⟩
      obtain ⟨k, hk, rfl⟩ := List.getElem_of_mem hv
      have := h.bd k
      rw [List.getD_eq_getElem?_getD, List.getElem?_eq_getElem hk] at this
      rw [hl]; simpa using this
    have hf := h.ker.full
    rw [if_neg h0, if_neg (by simp [ho]), if_neg (by rw [hl]; omega)]
theorem rk_len (n : Nat) (rows : List Nat) : rk n rows ≤ rows.length := by
  have h := solve_inv (rows.zip (units rows.length)) n
  have h1 := rk_zip (C := n) (rows := rows) (pts := units rows.length) (units_len _)
  have h2 : (rows.zip (units rows.length)).length = rows.length := by simp [units_len]
  have := h.pvl
  have := h.len
  omega
theorem apF64 {rows : List Nat} {c v x : Nat} (hc : c ≤ 64) (hb : ∀ k, rows.getD k 0 < 2 ^ c) (hv : v < 2 ^ rows.length) : apF rows x rows.length = v ↔ ∀ k, k < rows.length → dot c (rows.getD k 0) x = v.testBit k := by
  constructor
  · intro h k hk
    rw [← h, apF, ofB_bit, decide_eq_true hk, Bool.true_and, dot_cut x (hb k) hc]
  · intro h
    refine eq_bits (apF_lt _ _ _) hv fun i hi => ?_
    rw [apF, ofB_bit, decide_eq_true hi, Bool.true_and, dot_cut x (hb i) hc, h i hi]
/-- masks with a full rank, and their inverse -/
structure InvOk (N r : List Nat) : Prop where
  len : r.length = N.length
  bd : ∀ k, r.getD k 0 < 2 ^ N.length
  iff : ∀ x v, x < 2 ^ N.length → v < 2 ^ N.length → (valF N x = v ↔ valF r v = x)
theorem inv_ok {N : List Nat} (h : checkF N = 0) (hl : N.length ≤ 64) : InvOk N (inv10F N).1 ∧ (inv10F N).2 = 0 := by
  by_cases h0 : N.length = 0
  · have e : inv10F N = ([], 0) := by rw [inv10F, if_pos (.inr h0), h]
    have e2 : N = [] := List.length_eq_zero_iff.1 h0
    rw [e]
    subst e2
    refine ⟨⟨rfl, fun k => by simp, fun x v hx hv => ?_⟩, rfl⟩
    have hx' : x = 0 := by simpa using hx
    have hv' : v = 0 := by simpa using hv
    subst hx' hv'
    exact Iff.rfl
  · have e : inv10F N = ((invF N.length N).rows, 0) := by rw [inv10F, if_neg (by omega)]
    rw [checkF, if_neg (by omega), if_neg h0] at h
    have ho : okM N.length N = true := by
      cases hk : okM N.length N with
      | true => rfl
      | false => rw [hk, if_pos rfl] at h; exact absurd h (by decide)
    rw [if_neg (by simp [ho])] at h
    have hrk : rk N.length N = N.length := by
      have := rk_len N.length N
      by_cases hlt : rk N.length N < N.length
      · rw [if_pos hlt] at h; exact absurd h (by decide)
      · omega
    obtain ⟨b1, b2, b3, b4, b5⟩ := okM_bd ho
    rw [Int.toNat_natCast] at b5
    have hz : (N.zip (units N.length)).length = N.length := by simp [units_len]
    have hpv : (solveE (N.zip (units N.length)) N.length).pv.length = N.length := by rw [rk_zip (units_len _)]; exact hrk
    have er : (invF N.length N).rows = snds (solveE (N.zip (units N.length)) N.length).ps := by
      rw [invF, ho, if_pos rfl, if_neg (by simp), if_neg (by omega)]
    rw [e, er]
    have hsl : (snds (solveE (N.zip (units N.length)) N.length).ps).length = N.length := by
      rw [snds_len, (solve_inv (N.zip (units N.length)) N.length).len, hz]
    have hB : Bd N.length N.length (N.zip (units N.length)) := fun k => by
      by_cases hk : k < N.length
      · have : (N.zip (units N.length)).getD k z2 = (N.getD k 0, (units N.length).getD k 0) := by
          have hk2 : k < (units N.length).length := by rw [units_len]; exact hk
          have hk3 : k < (N.zip (units N.length)).length := by omega
          rw [List.getD_eq_getElem?_getD, List.getElem?_eq_getElem hk3, List.getD_eq_getElem?_getD, List.getElem?_eq_getElem hk, List.getD_eq_getElem?_getD, List.getElem?_eq_getElem hk2, List.getElem_zip]; rfl
        rw [this]
        exact ⟨b5 k, units_bd _ _⟩
      · rw [getD_out (by omega)]
        exact z2_bd _ _
    have hbd : ∀ k, (snds (solveE (N.zip (units N.length)) N.length).ps).getD k 0 < 2 ^ N.length := fun k => by
      rw [snds_get]; exact (hB.solve N.length k).2
    refine ⟨⟨hsl, hbd, fun x v hx hv => ?_⟩, rfl⟩
    have key := inv_iff (rows := N) (pts := units N.length) (n := N.length) rfl (units_len _) (fun k hk => units_get hk) hrk x v
    have m1 : min N.length 64 = N.length := by omega
    have m2 : min (snds (solveE (N.zip (units N.length)) N.length).ps).length 64 = (snds (solveE (N.zip (units N.length)) N.length).ps).length := by omega
    rw [valF, m1, valF, m2, apF64 hl b5 hv, apF64 (c := N.length) hl hbd (by rw [hsl]; exact hx), hsl, key]
    constructor
    · intro h k hk; rw [snds_get]; exact h k hk
    · intro h k hk; have := h k hk; rwa [snds_get] at this
end Go.Sx.T1
namespace Go.Sx.T1
open Go.Proofs Go.Sx.Gf
theorem valF_lt (masks : List Nat) (a : Nat) : valF masks a < 2 ^ min masks.length 64 := apF_lt _ _ _
theorem norm_ok {m : MapN} (ok : McOk m) {x : Int} (h : (normF m x).2 = true) : 0 ≤ (normF m x).1 ∧ (normF m x).1 < sizeF m.s := by
  have h1 := ok.lo
  have h2 := ok.hi
  unfold normF at h ⊢
  split at h
  · exact absurd h (by decide)
  · rename_i c1
    rw [if_neg c1]
    split at h
    · rename_i c2
      rw [if_pos c2]; exact ⟨Int.not_lt.1 c1, Int.lt_of_lt_of_le c2 h1.2⟩
    · rename_i c2
      rw [if_neg c2]
      split at h
      · exact absurd h (by decide)
      · rename_i c3
        rw [if_neg c3]
        simp only [decide_eq_true_eq] at h
        exact ⟨by simp only; omega, h⟩
/-- a value of the masks, in an int -/
theorem val_i64 {N : List Nat} (h : N.length ≤ 12) (a : Nat) : IntKind.i64.wrap ((valF N a : Nat) : Int) = ((valF N a : Nat) : Int) ∧ valF N a < 2 ^ N.length := by
  have h1 := valF_lt N a
  rw [show min N.length 64 = N.length by omega] at h1
  have h2 := pow_small h
  exact ⟨wrap64_in (by omega) (by omega), h1⟩
def locF (m : MapN) (x : Int) : Int × Int := if mcF m ≠ 0 then (0, mcF m) else if (normF m x).2 = false then (0, 9) else (((valF m.N (normF m x).1.toNat : Nat) : Int), 0)
def i2T (p : Int × Int) : SV := .t [.c (.v (.int .i64 p.1)), .c (.v (.int .i64 p.2))]
set_option maxHeartbeats 3200000 in
set_option maxRecDepth 10000 in
theorem locate_fc (m : MapN) (x : Int) (hl : m.N.length ≤ 140737488351232) (hr : ∀ k, m.N.getD k 0 < 18446744073709551616) (hx : x ≤ 9223372036854775807) :
    ∃ r : Int × Int, FC Try.prog 16 [nS m 0, int .i64 x] (nM m) (i2T r) (nM m) ∧ r = locF m x := by
  refine FC.rj mix Try.func16 ?_
  repeat (first | refine And.intro (by kernel_rfl) ?_ | refine And.intro (by decide) ?_)
  refine FC.u (mcheck_fc m hl hr) [0] ?_
  repeat (first | refine And.intro (by kernel_rfl) ?_ | refine And.intro (by decide) ?_)
  refine bselN (fun h1 => ?_) (fun h1 => ?_)
  · repeat (first | refine And.intro (by kernel_rfl) ?_ | refine And.intro (by decide) ?_)
    exact ⟨(0, mcF m), by rw [locF, if_pos h1], .id rfl ⟨.inl rfl, trivial⟩⟩
  have ok := (mc_iff m).1 h1
  repeat refine AJoin.plain ?_
  refine FC.x (normal_fc m x ok hx) [0] (fun r er => ?_)
  have hn := norm_ok ok (x := x)
  have e1 : locF m x = if r.2 = false then (0, 9) else (((valF m.N r.1.toNat : Nat) : Int), 0) := by rw [locF, if_neg (fun h => h h1), er]
  rw [← er] at hn
  obtain ⟨y, b⟩ := r
  clear er
  simp only at hn e1
  repeat (first | refine And.intro (by kernel_rfl) ?_ | refine And.intro (by decide) ?_)
  refine bselNot (bsel_intro (fun h2 => ?_) (fun h2 => ?_))
  rotate_left
  · repeat (first | refine And.intro (by kernel_rfl) ?_ | refine And.intro (by decide) ?_)
    exact ⟨(0, 9), by rw [show b = false from h2, if_pos rfl] at e1; exact e1.symm, .id rfl ⟨.inl rfl, trivial⟩⟩
  have h2 : b = true := h2
  obtain ⟨hs, hb⟩ := size_is ok.sh
  have hp := pow_small hb
  obtain ⟨hy0, hy1⟩ := hn h2
  obtain ⟨y, rfl⟩ : ∃ n : Nat, y = n := ⟨y.toNat, by omega⟩
  have w1 : IntKind.u64.wrap (y : Int) = (y : Int) := wrapU64_in (by omega) (by omega)
  have w2 := (val_i64 (N := m.N) (by have := ok.len; omega) y).1
  repeat refine AJoin.plain ?_
  conv => whnf
  rw [w1]
  refine FC.u (value_fc m.N y hl hr (by omega)) [0] ?_
  conv => whnf
  rw [w2]
  repeat (first | refine And.intro (by kernel_rfl) ?_ | refine And.intro (by decide) ?_)
  exact ⟨(((valF m.N y : Nat) : Int), 0), by rw [e1, if_neg (by simp [show b = true from h2]), Int.toNat_natCast], .id rfl ⟨.inl rfl, trivial⟩⟩
def adrF (m : MapN) (x : Int) : Int × Int := if mcF m ≠ 0 then (0, mcF m) else if x < 0 ∨ x ≥ sizeF m.s then (0, 2) else
  let v : Int := ((valF (inv10F m.N).1 x.toNat : Nat) : Int)
  (if v ≥ m.lo then v + (m.hi - m.lo) else v, 0)
set_option maxHeartbeats 3200000 in
set_option maxRecDepth 10000 in
theorem address_fc (m : MapN) (x : Int) (hl : m.N.length ≤ 140737488351232) (hr : ∀ k, m.N.getD k 0 < 18446744073709551616) :
    ∃ r : Int × Int, FC Try.prog 15 [nS m 0, int .i64 x] (nM m) (i2T r) (nM m) ∧ r = adrF m x := by
  refine FC.rj mix Try.func15 ?_
  repeat (first | refine And.intro (by kernel_rfl) ?_ | refine And.intro (by decide) ?_)
  refine FC.u (mcheck_fc m hl hr) [0] ?_
  repeat (first | refine And.intro (by kernel_rfl) ?_ | refine And.intro (by decide) ?_)
  refine bselN (fun h1 => ?_) (fun h1 => ?_)
  · repeat (first | refine And.intro (by kernel_rfl) ?_ | refine And.intro (by decide) ?_)
    exact ⟨(0, mcF m), by rw [adrF, if_pos h1], .id rfl ⟨.inl rfl, trivial⟩⟩
  have ok := (mc_iff m).1 h1
  obtain ⟨hs, hb⟩ := size_is ok.sh
  have hp := pow_small hb
  have hlo := ok.lo
  have hhi := ok.hi
  have hlen := ok.len
  have e1 : adrF m x = if x < 0 ∨ x ≥ sizeF m.s then (0, 2) else
    (if ((valF (inv10F m.N).1 x.toNat : Nat) : Int) ≥ m.lo then ((valF (inv10F m.N).1 x.toNat : Nat) : Int) + (m.hi - m.lo) else ((valF (inv10F m.N).1 x.toNat : Nat) : Int), 0) := by rw [adrF, if_neg (fun h => h h1)]
  repeat (first | refine And.intro (by kernel_rfl) ?_ | refine And.intro (by decide) ?_)
  refine bselD (fun h2 => ?_) (fun h2 => ?_)
  · repeat (first | refine And.intro (by kernel_rfl) ?_ | refine And.intro (by decide) ?_)
    exact ⟨(0, 2), by rw [e1, if_pos (.inl h2)], .id rfl ⟨.inl rfl, trivial⟩⟩
  refine FC.u (size_fc m.s) [] ?_
  refine bselD (fun h3 => ?_) (fun h3 => ?_)
  · repeat (first | refine And.intro (by kernel_rfl) ?_ | refine And.intro (by decide) ?_)
    exact ⟨(0, 2), by rw [e1, if_pos (.inr h3)], .id rfl ⟨.inl rfl, trivial⟩⟩
  rw [if_neg (by omega)] at e1
  obtain ⟨x, rfl⟩ : ∃ n : Nat, x = n := ⟨x.toNat, by omega⟩
  rw [Int.toNat_natCast] at e1
  have w1 : IntKind.u64.wrap (x : Int) = (x : Int) := wrapU64_in (by omega) (by omega)
  obtain ⟨io, _⟩ := inv_ok ok.ck (by omega)
  repeat refine AJoin.plain ?_
  refine FC.x (inverse10_fc m.N hl hr) [0] (fun p ep => ?_)
  rw [← ep] at io e1
  clear ep
  obtain ⟨r, er⟩ := p
  simp only at io e1
  have hrl := io.len
  obtain ⟨w2, hv⟩ := val_i64 (N := r) (by omega) x
  have hpl := pow_small (show r.length ≤ 12 by omega)
  have w3 : IntKind.i64.wrap (m.hi - m.lo) = m.hi - m.lo := wrap64_in (by omega) (by omega)
  have w4 : IntKind.i64.wrap (((valF r x : Nat) : Int) + (m.hi - m.lo)) = ((valF r x : Nat) : Int) + (m.hi - m.lo) := wrap64_in (by omega) (by omega)
  repeat refine AJoin.plain ?_
  conv => whnf
  rw [w1]
  refine FC.u (value_fc r x (by omega) (fun k => lt64 (io.bd k) (by omega)) (by omega)) [2] ?_
  conv => whnf
  rw [w2]
  repeat refine AJoin.plain ?_
  refine bselD (fun h4 => ?_) (fun h4 => ?_)
  · repeat refine AJoin.plain ?_
    conv => whnf
    rw [w3, w4]
    repeat (first | refine And.intro (by kernel_rfl) ?_ | refine And.intro (by decide) ?_)
    exact ⟨(((valF r x : Nat) : Int) + (m.hi - m.lo), 0), by rw [e1, if_pos h4], .id rfl ⟨.inl rfl, trivial⟩⟩
  · repeat refine AJoin.plain ?_
    repeat (first | refine And.intro (by kernel_rfl) ?_ | refine And.intro (by decide) ?_)
    exact ⟨(((valF r x : Nat) : Int), 0), by rw [e1, if_neg h4], .id rfl ⟨.inl rfl, trivial⟩⟩
def plF (m : MapN) (x : Int) : S6 × Int := if (locF m x).2 ≠ 0 then (zero6, (locF m x).2) else atF m.s (locF m x).1
set_option maxHeartbeats 3200000 in
set_option maxRecDepth 10000 in
theorem mplace_fc (m : MapN) (x : Int) (hl : m.N.length ≤ 140737488351232) (hr : ∀ k, m.N.getD k 0 < 18446744073709551616) (hx : x ≤ 9223372036854775807) :
    ∃ r : S6 × Int, FC Try.prog 17 [nS m 0, int .i64 x] (nM m) (atT r) (nM m) ∧ r = plF m x := by
  refine FC.rj mix Try.func17 ?_
  repeat (first | refine And.intro (by kernel_rfl) ?_ | refine And.intro (by decide) ?_)
  refine FC.x (locate_fc m x hl hr hx) [0] (fun r er => ?_)
  have e1 : plF m x = if r.2 ≠ 0 then (zero6, r.2) else atF m.s r.1 := by rw [plF, ← er]
  clear er
  obtain ⟨y, e⟩ := r
  simp only at e1
  repeat (first | refine And.intro (by kernel_rfl) ?_ | refine And.intro (by decide) ?_)
  refine bselN (fun h1 => ?_) (fun h1 => ?_)
  · repeat (first | refine And.intro (by kernel_rfl) ?_ | refine And.intro (by decide) ?_)
    exact ⟨(zero6, e), by rw [e1, if_pos h1], .id rfl ⟨.inl rfl, trivial⟩⟩
  repeat refine AJoin.plain ?_
  refine FC.x (at_fc m.s y) [] (fun q eq => ?_)
  repeat (first | refine And.intro (by kernel_rfl) ?_ | refine And.intro (by decide) ?_)
  exact ⟨q, by rw [e1, if_neg (fun h => h h1), eq], .id rfl ⟨.inl rfl, trivial⟩⟩
def ofF (m : MapN) (p : S6) : Int × Int := if mcF m ≠ 0 then (0, mcF m) else if (ixF m.s p).2 ≠ 0 then (0, (ixF m.s p).2) else adrF m (ixF m.s p).1
set_option maxHeartbeats 3200000 in
set_option maxRecDepth 10000 in
theorem of_fc (m : MapN) (p : S6) (hl : m.N.length ≤ 140737488351232) (hr : ∀ k, m.N.getD k 0 < 18446744073709551616) :
    ∃ r : Int × Int, FC Try.prog 19 [nS m 0, s6S p] (nM m) (i2T r) (nM m) ∧ r = ofF m p := by
  refine FC.rj mix Try.func19 ?_
  repeat (first | refine And.intro (by kernel_rfl) ?_ | refine And.intro (by decide) ?_)
  refine FC.u (mcheck_fc m hl hr) [0] ?_
  repeat (first | refine And.intro (by kernel_rfl) ?_ | refine And.intro (by decide) ?_)
  refine bselN (fun h1 => ?_) (fun h1 => ?_)
  · repeat (first | refine And.intro (by kernel_rfl) ?_ | refine And.intro (by decide) ?_)
    exact ⟨(0, mcF m), by rw [ofF, if_pos h1], .id rfl ⟨.inl rfl, trivial⟩⟩
  repeat refine AJoin.plain ?_
  refine FC.x (index_fc m.s p) [] (fun r er => ?_)
  have e1 : ofF m p = if r.2 ≠ 0 then (0, r.2) else adrF m r.1 := by rw [ofF, if_neg (fun h => h h1), ← er]
  clear er
  obtain ⟨y, e⟩ := r
  simp only at e1
  repeat (first | refine And.intro (by kernel_rfl) ?_ | refine And.intro (by decide) ?_)
  refine bselN (fun h2 => ?_) (fun h2 => ?_)
  · repeat (first | refine And.intro (by kernel_rfl) ?_ | refine And.intro (by decide) ?_)
    exact ⟨(0, e), by rw [e1, if_pos h2], .id rfl ⟨.inl rfl, trivial⟩⟩
  repeat refine AJoin.plain ?_
  refine FC.x (address_fc m y hl hr) [0] (fun q eq => ?_)
  repeat (first | refine And.intro (by kernel_rfl) ?_ | refine And.intro (by decide) ?_)
  exact ⟨q, by rw [e1, if_neg (fun h => h h2), eq], .id rfl ⟨.inl rfl, trivial⟩⟩
def nxF (m : MapN) (x : Int) : Int × Bool := if mcF m ≠ 0 then (0, false) else
  let y := max x 0
  let z := if y ≥ m.lo then max y m.hi else y
  if (normF m z).2 = true then (z, true) else (0, false)
def ibT (p : Int × Bool) : SV := .t [.c (.v (.int .i64 p.1)), .c (.v (.bool p.2))]
set_option maxHeartbeats 3200000 in
set_option maxRecDepth 10000 in
theorem mnext_fc (m : MapN) (x : Int) (hl : m.N.length ≤ 140737488351232) (hr : ∀ k, m.N.getD k 0 < 18446744073709551616) (hx : x ≤ 9223372036854775807) :
    ∃ r : Int × Bool, FC Try.prog 21 [nS m 0, int .i64 x] (nM m) (ibT r) (nM m) ∧ r = nxF m x := by
  refine FC.rj mix Try.func21 ?_
  repeat (first | refine And.intro (by kernel_rfl) ?_ | refine And.intro (by decide) ?_)
  refine FC.u (mcheck_fc m hl hr) [0] ?_
  repeat (first | refine And.intro (by kernel_rfl) ?_ | refine And.intro (by decide) ?_)
  refine bselN (fun h1 => ?_) (fun h1 => ?_)
  · repeat (first | refine And.intro (by kernel_rfl) ?_ | refine And.intro (by decide) ?_)
    exact ⟨(0, false), by rw [nxF, if_pos h1], .id rfl ⟨.inl rfl, trivial⟩⟩
  have ok := (mc_iff m).1 h1
  have hhi := ok.hi
  have e1 : nxF m x = if (normF m (if max x 0 ≥ m.lo then max (max x 0) m.hi else max x 0)).2 = true then ((if max x 0 ≥ m.lo then max (max x 0) m.hi else max x 0), true) else (0, false) := by rw [nxF, if_neg (fun h => h h1)]
  have m0 : (if false = true then if 0 < x then 0 else x else if 0 > x then 0 else x) = max x 0 := by rw [if_neg (by decide)]; split <;> omega
  have hy : 0 ≤ max x 0 ∧ max x 0 ≤ 9223372036854775807 := by omega
  repeat refine AJoin.plain ?_
  conv => whnf
  rw [m0]
  generalize max x 0 = y at e1 hy
  have m1 : (if false = true then if m.hi < y then m.hi else y else if m.hi > y then m.hi else y) = max y m.hi := by rw [if_neg (by decide)]; split <;> omega
  clear m0
  repeat refine AJoin.plain ?_
  refine bselD (fun h2 => ?_) (fun h2 => ?_)
  · rw [if_pos h2] at e1
    have hz : max y m.hi ≤ 9223372036854775807 := by omega
    repeat refine AJoin.plain ?_
    conv => whnf
    rw [m1]
    refine FC.x (normal_fc m (max y m.hi) ok hz) [0] (fun r er => ?_)
    rw [← er] at e1
    clear er
    obtain ⟨v, b⟩ := r
    repeat (first | refine And.intro (by kernel_rfl) ?_ | refine And.intro (by decide) ?_)
    refine bselNot (bsel_intro (fun h3 => ?_) (fun h3 => ?_))
    · have h3 : b = true := h3
      rw [if_pos h3] at e1
      repeat (first | refine And.intro (by kernel_rfl) ?_ | refine And.intro (by decide) ?_)
      exact ⟨(max y m.hi, true), e1.symm, .id rfl ⟨.inl rfl, trivial⟩⟩
    · have h3 : b = false := h3
      rw [if_neg (by simp [h3])] at e1
      repeat (first | refine And.intro (by kernel_rfl) ?_ | refine And.intro (by decide) ?_)
      exact ⟨(0, false), e1.symm, .id rfl ⟨.inl rfl, trivial⟩⟩
  · rw [if_neg h2] at e1
    repeat refine AJoin.plain ?_
    refine FC.x (normal_fc m y ok hy.2) [0] (fun r er => ?_)
    rw [← er] at e1
    clear er
    obtain ⟨v, b⟩ := r
    repeat (first | refine And.intro (by kernel_rfl) ?_ | refine And.intro (by decide) ?_)
    refine bselNot (bsel_intro (fun h3 => ?_) (fun h3 => ?_))
    · have h3 : b = true := h3
      rw [if_pos h3] at e1
      repeat (first | refine And.intro (by kernel_rfl) ?_ | refine And.intro (by decide) ?_)
      exact ⟨(y, true), e1.symm, .id rfl ⟨.inl rfl, trivial⟩⟩
    · have h3 : b = false := h3
      rw [if_neg (by simp [h3])] at e1
      repeat (first | refine And.intro (by kernel_rfl) ?_ | refine And.intro (by decide) ?_)
      exact ⟨(0, false), e1.symm, .id rfl ⟨.inl rfl, trivial⟩⟩
end Go.Sx.T1
namespace Go.Sx.T1
open Go.Proofs Go.Sx.Gf
/-! made maps with natural masks -/
structure MN where
  m : MapN
  k : Nat
def mapnM (ts : List Int) (x : MN) : Mem := [diceB ts x.k, diceL ts, u64n x.m.N true]
structure MadeN (s : S6) (m : MapN) : Prop where
  eq : m.s = s
  ok : McOk m
  bd : ∀ k, m.N.getD k 0 < 2 ^ bitsN s
  le : bitsN s ≤ 12
theorem mapn_fc (ts : List Int) (k : Nat) (s : S6) (hl : ts.length ≤ 400) (g : ShG 12 s) : ∃ x : MN, FC Try.prog 12 [.o (.c (.p 0 0 0)), s6S s] [diceB ts k, diceL ts] (nS x.m 2) (mapnM ts x) ∧ MadeN s x.m := by
  have nn := sum_nn g.lo
  have hb : sumTo s 6 = bitsN s := by unfold bitsN; omega
  have hb12 : bitsN s ≤ 12 := by have := g.sum; omega
  obtain ⟨⟨⟨s', M, lo, hi⟩, k'⟩, h, rfl, G⟩ := map_fcS ts k s (bitsN s) hl g hb
  have hb12 : bitsN s' ≤ 12 := hb12
  obtain ⟨ns, rfl, ho⟩ := (show Msk (bitsN s') M from G.msk).nat (by omega)
  have hsh : shB s' = true := shB_iff.2 g.v
  have hs := (size_is hsh).1
  have G1 := G.lo
  have G2 := G.hi
  have G3 := G.fit
  simp only at G1 G2 G3
  refine ⟨⟨⟨s', ns, lo, hi⟩, k'⟩, ?_, rfl, ⟨hsh, ho.len, ho.check (by omega), by simp only [hs]; exact G1, G2, by simp only [hs]; exact G3⟩, ho.bd, hb12⟩
  have e1 : mS ⟨s', zl ns, lo, hi⟩ 2 = nS ⟨s', ns, lo, hi⟩ 2 := by unfold mS nS mC nC; simp only [zl_len]
  rw [← e1]
  exact h
/-! there and back -/
theorem suf_pre (s : S6) : suf s 6 = preN s 6 := by
  simp only [suf, preN, Nat.reduceSub, Nat.sub_zero]; omega
theorem bits_pre {s : S6} (h : ShV s) : preN s 6 = bitsN s := by
  have := pre_sum h 6 (by omega)
  unfold bitsN; omega
theorem ix_at (s : S6) (x : Nat) (hx : x < 2 ^ suf s 6) : ∀ j, j ≤ 6 → ixN s (atS s x) j = x / 2 ^ suf s (6 - j)
  | 0, _ => by rw [ixN, Nat.div_eq_of_lt hx]
  | j + 1, hj => by
    have hj' : j < 6 := by omega
    rw [ixN, ix_at s x hx j (by omega), atS, mk6_get _ hj', Int.toNat_natCast, digF, show 6 - (j + 1) = 5 - j by omega, show 6 - j = (5 - j) + 1 by omega, suf, show 5 - (5 - j) = j by omega, Nat.pow_add, ← Nat.div_div_eq_div_mul]
    rw [Nat.mul_comm]
    exact Nat.div_add_mod _ _
theorem ixF_at {s : S6} (h : shB s = true) {x : Nat} (hx : (x : Int) < sizeF s) : ixF s (atS s x) = ((x : Int), 0) := by
  obtain ⟨hs, hb⟩ := size_is h
  have hv := shB_iff.1 h
  have hx' : x < 2 ^ suf s 6 := by rw [suf_pre, bits_pre hv]; omega
  have hp : vpB s (atS s x) = true := vpB_iff.2 ⟨hv, fun j hj => by
    rw [atS, mk6_get _ hj]
    refine ⟨by omega, Int.ofNat_lt.2 (Nat.mod_lt _ (Nat.two_pow_pos _))⟩⟩
  rw [ixF, h, hp, if_pos rfl, if_pos rfl, ix_at s x hx' 6 (by omega)]
  simp [suf]
/-- what belongs to an index -/
structure Belong (m : MapN) (i : Int) (a : Int) : Prop where
  adr : adrF m i = (a, 0)
  loc : locF m a = (i, 0)
  out : a < m.lo ∨ a ≥ m.hi
  pos : 0 ≤ a
  lt : a < 1048576
theorem belong {m : MapN} (ok : McOk m) {i : Int} (h0 : 0 ≤ i) (h1 : i < sizeF m.s) : ∃ a, Belong m i a := by
  obtain ⟨hs, hb⟩ := size_is ok.sh
  have hlen := ok.len
  have hlo := ok.lo
  have hhi := ok.hi
  have hfit := ok.fit
  obtain ⟨io, _⟩ := inv_ok ok.ck (by omega)
  obtain ⟨i, rfl⟩ : ∃ n : Nat, i = n := ⟨i.toNat, by omega⟩
  have hv : valF (inv10F m.N).1 i < 2 ^ m.N.length := by
    have := valF_lt (inv10F m.N).1 i
    rwa [io.len, show min m.N.length 64 = m.N.length by omega] at this
  have hi2 : i < 2 ^ m.N.length := by rw [hlen]; omega
  have key := (io.iff _ _ hv hi2).2 rfl
  have hvs : ((valF (inv10F m.N).1 i : Nat) : Int) < sizeF m.s := by rw [hs, ← hlen]; exact Int.ofNat_lt.2 hv
  have mc := (mc_iff m).2 ok
  have ea : adrF m (i : Int) = (if ((valF (inv10F m.N).1 i : Nat) : Int) ≥ m.lo then ((valF (inv10F m.N).1 i : Nat) : Int) + (m.hi - m.lo) else ((valF (inv10F m.N).1 i : Nat) : Int), 0) := by
    rw [adrF, if_neg (fun h => h mc), if_neg (by omega), Int.toNat_natCast]
  have fin : ∀ a : Int, normF m a = (((valF (inv10F m.N).1 i : Nat) : Int), true) → locF m a = ((i : Int), 0) := fun a ha => by
    rw [locF, if_neg (fun h => h mc), ha, if_neg (by simp)]
    simp only [Int.toNat_natCast, key]
  generalize hvv : ((valF (inv10F m.N).1 i : Nat) : Int) = v at hvs ea fin
  have hv0 : 0 ≤ v := by omega
  clear hvv
  by_cases c : v ≥ m.lo
  · rw [if_pos c] at ea
    refine ⟨v + (m.hi - m.lo), ea, fin _ ?_, .inr (by omega), by omega, by omega⟩
    rw [normF, if_neg (by omega), if_neg (by omega), if_neg (by omega), show v + (m.hi - m.lo) - (m.hi - m.lo) = v by omega]
    simp [hvs]
  · rw [if_neg c] at ea
    refine ⟨v, ea, fin _ ?_, .inl (by omega), hv0, by omega⟩
    rw [normF, if_neg (by omega), if_pos (by omega)]
theorem Belong.place {m : MapN} {i a : Int} (h : Belong m i a) : plF m a = atF m.s i := by
  rw [plF, h.loc]; rfl
theorem Belong.of {m : MapN} {i : Nat} {a : Int} (ok : McOk m) (h : Belong m i a) (h1 : (i : Int) < sizeF m.s) : ofF m (atS m.s i) = (a, 0) := by
  rw [ofF, if_neg (fun h => h ((mc_iff m).2 ok)), ixF_at ok.sh h1, if_neg (by simp), h.adr]
theorem at_in {s : S6} (h : shB s = true) {i : Nat} (h1 : (i : Int) < sizeF s) : atF s i = (atS s i, 0) := by
  rw [atF, h, if_pos rfl, if_pos ⟨by omega, h1⟩, Int.toNat_natCast]
/-! awake -/
def awM : MapN := ⟨⟨0, 0, 0, 0, 1, 0⟩, [1], 1, 3⟩
theorem awBd (k : Nat) : awM.N.getD k 0 < 18446744073709551616 := by
  rcases k with _ | k <;> simp [awM]
theorem aw3 : locF awM 3 = (1, 0) := by kernel_rfl
theorem aw2 : locF awM 2 = (0, 9) := by kernel_rfl
theorem awn : nxF awM 1 = (3, true) := by kernel_rfl
theorem awc : mcF awM = 0 := by kernel_rfl
theorem awl (x : Int) (r : Int × Int) (h : locF awM x = r) (hx : x ≤ 9223372036854775807) : FC Try.prog 16 [nS awM 0, int .i64 x] (nM awM) (i2T r) (nM awM) := by
  obtain ⟨q, f, e⟩ := locate_fc awM x (by decide) awBd hx
  rw [h] at e; subst e; exact f
theorem awx : FC Try.prog 21 [nS awM 0, int .i64 1] (nM awM) (ibT (3, true)) (nM awM) := by
  obtain ⟨q, f, e⟩ := mnext_fc awM 1 (by decide) awBd (by decide)
  rw [awn] at e; subst e; exact f
theorem awk : FC Try.prog 20 [nS awM 0] (nM awM) (int .i64 0) (nM awM) := by
  have := mcheck_fc awM (by decide) awBd
  rwa [awc] at this
set_option maxHeartbeats 3200000 in
set_option maxRecDepth 10000 in
theorem awake_fc : FC Try.prog 9 [] [] (boo true) [] := by
  refine FC.one (FC.r mix Try.func9 ?_)
  repeat (first | refine And.intro (by kernel_rfl) ?_ | refine And.intro (by decide) ?_)
  refine FC.u (awl 3 _ aw3 (by decide)) [0] ?_
  repeat (first | refine And.intro (by kernel_rfl) ?_ | refine And.intro (by decide) ?_)
  refine FC.u (awl 2 _ aw2 (by decide)) [0] ?_
  repeat (first | refine And.intro (by kernel_rfl) ?_ | refine And.intro (by decide) ?_)
  refine FC.u awx [0] ?_
  repeat (first | refine And.intro (by kernel_rfl) ?_ | refine And.intro (by decide) ?_)
  refine FC.u awk [0] ?_
  repeat (first | refine And.intro (by kernel_rfl) ?_ | refine And.intro (by decide) ?_)
  exact ⟨(), trivial, .id rfl trivial⟩
end Go.Sx.T1
namespace Go.Sx.T1
open Go.Proofs Go.Sx.Gf
theorem mod_x (n m : Int) (h1 : 1 ≤ m) (hm : m < 9223372036854775808) : ∃ v : Int, FC Try.prog 14 [int .i64 n, int .i64 m] [] (int .i64 v) [] ∧ 0 ≤ v ∧ v < m :=
  ⟨mMod n m, mod_fc n m hm, mMod_bd h1⟩
theorem MadeN.hl {s : S6} {m : MapN} (h : MadeN s m) : m.N.length ≤ 140737488351232 := by
  have h1 := h.ok.len
  have h2 := h.eq
  subst h2
  have h3 := h.le
  omega
theorem MadeN.hr {s : S6} {m : MapN} (h : MadeN s m) (k : Nat) : m.N.getD k 0 < 18446744073709551616 := lt64 (h.bd k) (by have := h.le; omega)
theorem adr_is {s : S6} {m : MapN} (h : MadeN s m) (i : Int) (r : Int × Int) (e : adrF m i = r) : FC Try.prog 15 [nS m 0, int .i64 i] (nM m) (i2T r) (nM m) := by
  obtain ⟨q, f, e'⟩ := address_fc m i h.hl h.hr
  rw [e] at e'; subst e'; exact f
theorem loc_is {s : S6} {m : MapN} (h : MadeN s m) (i : Int) (hi : i ≤ 9223372036854775807) (r : Int × Int) (e : locF m i = r) : FC Try.prog 16 [nS m 0, int .i64 i] (nM m) (i2T r) (nM m) := by
  obtain ⟨q, f, e'⟩ := locate_fc m i h.hl h.hr hi
  rw [e] at e'; subst e'; exact f
theorem pl_is {s : S6} {m : MapN} (h : MadeN s m) (i : Int) (hi : i ≤ 9223372036854775807) (r : S6 × Int) (e : plF m i = r) : FC Try.prog 17 [nS m 0, int .i64 i] (nM m) (atT r) (nM m) := by
  obtain ⟨q, f, e'⟩ := mplace_fc m i h.hl h.hr hi
  rw [e] at e'; subst e'; exact f
theorem of_is {s : S6} {m : MapN} (h : MadeN s m) (p : S6) (r : Int × Int) (e : ofF m p = r) : FC Try.prog 19 [nS m 0, s6S p] (nM m) (i2T r) (nM m) := by
  obtain ⟨q, f, e'⟩ := of_fc m p h.hl h.hr
  rw [e] at e'; subst e'; exact f
theorem nx_is {s : S6} {m : MapN} (h : MadeN s m) (i : Int) (hi : i ≤ 9223372036854775807) (r : Int × Bool) (e : nxF m i = r) : FC Try.prog 21 [nS m 0, int .i64 i] (nM m) (ibT r) (nM m) := by
  obtain ⟨q, f, e'⟩ := mnext_fc m i h.hl h.hr hi
  rw [e] at e'; subst e'; exact f
theorem chk_is {s : S6} {m : MapN} (h : MadeN s m) : FC Try.prog 20 [nS m 0] (nM m) (int .i64 0) (nM m) := by
  have := mcheck_fc m h.hl h.hr
  rwa [(mc_iff m).2 h.ok] at this
theorem at_is (s : S6) (i : Int) (r : S6 × Int) (e : atF s i = r) : FC Try.prog 18 [s6S s, int .i64 i] [] (atT r) [] := by
  obtain ⟨q, f, e'⟩ := at_fc s i
  rw [e] at e'; subst e'; exact f
end Go.Sx.T1
namespace Go.Sx.T1
open Go.Proofs Go.Sx.Gf
namespace Hol
theorem wrap_le (x : Int) : IntKind.i64.wrap x ≤ 9223372036854775807 := by rw [IntKind.wrap_i64]; omega
theorem loc_of {m : MapN} (ok : McOk m) {a : Int} (h : (normF m a).2 = true) : ∃ v p, locF m a = (v, 0) ∧ plF m a = (p, 0) := by
  have mc := (mc_iff m).2 ok
  have hn := norm_ok ok h
  obtain ⟨hs, hb⟩ := size_is ok.sh
  have hlen := ok.len
  have e1 : locF m a = (((valF m.N (normF m a).1.toNat : Nat) : Int), 0) := by rw [locF, if_neg (fun h => h mc), if_neg (by simp [h])]
  have hv := valF_lt m.N (normF m a).1.toNat
  rw [show min m.N.length 64 = m.N.length by omega, hlen] at hv
  refine ⟨_, atS m.s (valF m.N (normF m a).1.toNat), e1, ?_⟩
  rw [plF, e1, if_neg (by simp)]
  simp only
  rw [at_in ok.sh (by rw [hs]; exact Int.ofNat_lt.2 hv)]
theorem loc_no {m : MapN} (ok : McOk m) {a : Int} (h : (normF m a).2 = false) : locF m a = (0, 9) ∧ plF m a = (zero6, 9) := by
  have mc := (mc_iff m).2 ok
  have e1 : locF m a = (0, 9) := by rw [locF, if_neg (fun h => h mc), if_pos h]
  exact ⟨e1, by rw [plF, e1, if_pos (by simp)]⟩
theorem holes {m : MapN} (ok : McOk m) {a : Int} (ha : a ≤ 9223372036854775807) :
    (∃ v p, nxF m a = (a, true) ∧ locF m a = (v, 0) ∧ plF m a = (p, 0)) ∨
    (∃ x v, nxF m a = (x, true) ∧ locF m a = (0, 9) ∧ plF m a = (zero6, 9) ∧ x ≠ a ∧ a ≤ x ∧ x ≤ 9223372036854775807 ∧ locF m x = (v, 0)) ∨
    (nxF m a = (0, false) ∧ locF m a = (0, 9) ∧ plF m a = (zero6, 9)) := by
  have mc := (mc_iff m).2 ok
  have hlo := ok.lo
  have hhi := ok.hi
  have e1 : nxF m a = if (normF m (if max a 0 ≥ m.lo then max (max a 0) m.hi else max a 0)).2 = true then ((if max a 0 ≥ m.lo then max (max a 0) m.hi else max a 0), true) else (0, false) := by rw [nxF, if_neg (fun h => h mc)]
  have hz : a ≤ (if max a 0 ≥ m.lo then max (max a 0) m.hi else max a 0) ∧ (if max a 0 ≥ m.lo then max (max a 0) m.hi else max a 0) ≤ 9223372036854775807 := by
    split <;> constructor <;> omega
  have hza : (normF m a).2 = true → (if max a 0 ≥ m.lo then max (max a 0) m.hi else max a 0) = a := by
    intro h
    unfold normF at h
    split at h
    · exact absurd h (by decide)
    · split at h
      · rw [if_neg (by omega)]; omega
      · split at h
        · exact absurd h (by decide)
        · rw [if_pos (by omega)]; omega
  generalize (if max a 0 ≥ m.lo then max (max a 0) m.hi else max a 0) = z at e1 hz hza
  cases hn : (normF m a).2 with
  | true =>
    obtain ⟨v, p, h1, h2⟩ := loc_of ok hn
    rw [hza hn, if_pos hn] at e1
    exact .inl ⟨v, p, e1, h1, h2⟩
  | false =>
    obtain ⟨h1, h2⟩ := loc_no ok hn
    cases hn2 : (normF m z).2 with
    | true =>
      obtain ⟨v, p, h3, h4⟩ := loc_of ok hn2
      rw [if_pos hn2] at e1
      exact .inr (.inl ⟨z, v, e1, h1, h2, (fun e => by rw [e, hn] at hn2; cases hn2), hz.1, hz.2, h3⟩)
    | false =>
      rw [if_neg (by simp [hn2])] at e1
      exact .inr (.inr ⟨e1, h1, h2⟩)
set_option maxHeartbeats 3200000 in
set_option maxRecDepth 10000 in
theorem law (ts : List Int) (n : Int) (hn : -9223372036854775808 ≤ n ∧ n ≤ 9223372036854775807) : FC Try.prog 5 [.o (.c (.s 0 0 ts.length 1)), int .i64 n] [diceL ts] (boo true) [diceL ts] := by
  refine FC.one (FC.rj mix Try.func5 ?_)
  repeat (first | refine And.intro (by kernel_rfl) ?_ | refine And.intro (by decide) ?_)
  refine FC.u (light_fc ts) [0] ?_
  refine bselNot (bselD (fun hl => ?_) (fun hl => ?_))
  rotate_left
  · repeat (first | refine And.intro (by kernel_rfl) ?_ | refine And.intro (by decide) ?_)
    refine FC.u awake_fc [] ?_
    exact ⟨(), trivial, .id rfl ⟨.inl rfl, trivial⟩⟩
  repeat refine AJoin.plain ?_
  refine FC.u (roll_fc ts) [0] ?_
  repeat (first | refine And.intro (by kernel_rfl) ?_ | refine And.intro (by decide) ?_)
  refine FC.x (shape_fc ts 0 12 hl (by omega)) [1, 0] (fun ⟨s, k1⟩ g => ?_)
  simp only at g
  repeat (first | refine And.intro (by kernel_rfl) ?_ | refine And.intro (by decide) ?_)
  refine FC.x (mapn_fc ts k1 s hl g) [1, 0] (fun y gx => ?_)
  obtain ⟨hs, hb⟩ := size_is gx.ok.sh
  have hlo := gx.ok.lo
  have hhi := gx.ok.hi
  have hp := pow_small hb
  repeat (first | refine And.intro (by kernel_rfl) ?_ | refine And.intro (by decide) ?_)
  refine FC.x (mod_x n 1048576 (by omega) (by omega)) [] (fun v1 h1 => ?_)
  repeat (first | refine And.intro (by kernel_rfl) ?_ | refine And.intro (by decide) ?_)
  refine FC.x (mod_x n 3 (by omega) (by omega)) [] (fun v2 h2 => ?_)
  repeat (first | refine And.intro (by kernel_rfl) ?_ | refine And.intro (by decide) ?_)
  refine FC.x (mod_x n 3 (by omega) (by omega)) [] (fun v3 h3 => ?_)
  repeat (first | refine And.intro (by kernel_rfl) ?_ | refine And.intro (by decide) ?_)
  refine FC.x (mod_x _ 4 (by omega) (by omega)) [] (fun q hq => ?_)
  obtain ⟨q, rfl⟩ : ∃ z : Nat, q = z := ⟨q.toNat, by omega⟩
  have wl : ∀ x : Int, IntKind.i64.wrap (IntKind.i64.wrap (x - 1) + v2) ≤ 9223372036854775807 := fun x => wrap_le _
  have wh : ∀ x : Int, IntKind.i64.wrap (IntKind.i64.wrap (x - 1) + v3) ≤ 9223372036854775807 := fun x => wrap_le _
  refine And.intro ⟨by omega, by show (q : Int) < 4; omega⟩ ?_
  refine And.intro (by show 0 + q < 4; omega) ?_
  have ha : ([n, v1, IntKind.i64.wrap (IntKind.i64.wrap (y.m.lo - 1) + v2), IntKind.i64.wrap (IntKind.i64.wrap (y.m.hi - 1) + v3)] : List Int).getD (0 + (q : Int).toNat) 0 ≤ 9223372036854775807 := by
    rw [Nat.zero_add, Int.toNat_natCast]
    rcases (show q = 0 ∨ q = 1 ∨ q = 2 ∨ q = 3 by omega) with rfl | rfl | rfl | rfl
    · exact hn.2
    · show v1 ≤ _; omega
    · exact wl _
    · exact wh _
  repeat (first | refine And.intro (by kernel_rfl) ?_ | refine And.intro (by decide) ?_)
  conv => whnf
  generalize ([n, v1, IntKind.i64.wrap (IntKind.i64.wrap (y.m.lo - 1) + v2), IntKind.i64.wrap (IntKind.i64.wrap (y.m.hi - 1) + v3)] : List Int).getD (0 + (q : Int).toNat) 0 = a at ha
  rcases holes gx.ok ha with ⟨v, p, e1, e2, e3⟩ | ⟨x, v, e1, e2, e3, c1, c2, c3, e4⟩ | ⟨e1, e2, e3⟩
  · refine FC.u (nx_is gx a ha _ e1) [2] ?_
    repeat (first | refine And.intro (by kernel_rfl) ?_ | refine And.intro (by decide) ?_)
    refine FC.u (loc_is gx a ha _ e2) [2] ?_
    repeat (first | refine And.intro (by kernel_rfl) ?_ | refine And.intro (by decide) ?_)
    refine FC.u (pl_is gx a ha _ e3) [2] ?_
    repeat (first | refine And.intro (by kernel_rfl) ?_ | refine And.intro (by decide) ?_)
    refine FC.u awake_fc [] ?_
    repeat (first | refine And.intro (by kernel_rfl) ?_ | refine And.intro (by decide) ?_)
    refine bselF (by simp) ?_
    repeat (first | refine And.intro (by kernel_rfl) ?_ | refine And.intro (by decide) ?_)
    refine FC.u (loc_is gx a ha _ e2) [2] ?_
    repeat (first | refine And.intro (by kernel_rfl) ?_ | refine And.intro (by decide) ?_)
    exact ⟨(), trivial, .id (congrArg boo (decide_eq_true (Int.le_refl a))) ⟨.inl rfl, trivial⟩⟩
  · refine FC.u (nx_is gx a ha _ e1) [2] ?_
    repeat (first | refine And.intro (by kernel_rfl) ?_ | refine And.intro (by decide) ?_)
    refine FC.u (loc_is gx a ha _ e2) [2] ?_
    repeat (first | refine And.intro (by kernel_rfl) ?_ | refine And.intro (by decide) ?_)
    refine FC.u (pl_is gx a ha _ e3) [2] ?_
    repeat (first | refine And.intro (by kernel_rfl) ?_ | refine And.intro (by decide) ?_)
    refine FC.u awake_fc [] ?_
    repeat (first | refine And.intro (by kernel_rfl) ?_ | refine And.intro (by decide) ?_)
    refine bselF (show (!(false == (x == a))) = false by rw [beq_false_of_ne c1]; rfl) ?_
    repeat (first | refine And.intro (by kernel_rfl) ?_ | refine And.intro (by decide) ?_)
    refine FC.u (loc_is gx x c3 _ e4) [2] ?_
    repeat (first | refine And.intro (by kernel_rfl) ?_ | refine And.intro (by decide) ?_)
    exact ⟨(), trivial, .id (congrArg boo (decide_eq_true c2)) ⟨.inl rfl, trivial⟩⟩
  · refine FC.u (nx_is gx a ha _ e1) [2] ?_
    repeat (first | refine And.intro (by kernel_rfl) ?_ | refine And.intro (by decide) ?_)
    refine FC.u (loc_is gx a ha _ e2) [2] ?_
    repeat (first | refine And.intro (by kernel_rfl) ?_ | refine And.intro (by decide) ?_)
    refine FC.u (pl_is gx a ha _ e3) [2] ?_
    repeat (first | refine And.intro (by kernel_rfl) ?_ | refine And.intro (by decide) ?_)
    refine FC.u awake_fc [] ?_
    repeat (first | refine And.intro (by kernel_rfl) ?_ | refine And.intro (by decide) ?_)
    exact ⟨(), trivial, .id rfl ⟨.inl rfl, trivial⟩⟩
end Hol
end Go.Sx.T1
