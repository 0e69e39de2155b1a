/- Contracts of the functions that JournalDrops reaches, and the walk of the law, part 3. Conditions: none. -/
import Derived.Test.YtifdfeahgpghaaaJournalDropsB
namespace Go.Sx.T1
open Go.Proofs Go.Sx.Crc
/-! the contracts at a journal -/
theorem openJ_ok {l : List Nat} {s : Nat} {a b : Int} {out : List Rcd} (ok : JOk l s a b out) (hb : By l) :
    FC Try.prog 11 [.o (.a [.s 0 0 l.length 1, .v (.int .i64 s)])] [u8n l false] (.t [jV 1 l.length s a b, .c (.v (.int .i64 0))]) [u8n l false, u8n l true] := by
  have h16 := ok.hlen
  obtain ⟨r, h, e⟩ := openJ_fc l s (by omega) hb
  rw [open_ok ok] at e
  subst e
  exact h
theorem openR_ok {l : List Nat} {s : Nat} {a b : Int} {out : List Rcd} (ok : JOk l s a b out) (hb : By l) :
    FC Try.prog 44 [.o (.a [.s 0 0 l.length 1, .v (.int .i64 s)])] [u8n l false] (.t [jV 1 l.length s a b, .c (.v (.int .i64 0))]) [u8n l false, u8n l true] := by
  have h16 := ok.hlen
  obtain ⟨r, h, e⟩ := openR_fc l s (by omega) hb
  rw [open_ok ok] at e
  subst e
  exact h
theorem syncJ_ok {l : List Nat} {s : Nat} {a b : Int} {out : List Rcd} (ok : JOk l s a b out) (hb : By l) :
    FC Try.prog 15 [.o (jV 0 l.length s a b)] [u8n l false] (.t [jV 1 l.length l.length a a, .c (.v (.int .i64 0))]) [u8n l false, u8n l true] := by
  have h16 := ok.hlen
  obtain ⟨r, h, e⟩ := syncJ_fc l s a b (by omega) hb
  rw [(sync_ok ok).1] at e
  subst e
  exact h
theorem syncR_ok {l : List Nat} {s : Nat} {a b : Int} {out : List Rcd} (ok : JOk l s a b out) (hb : By l) :
    FC Try.prog 47 [.o (jV 0 l.length s a b)] [u8n l false] (.t [jV 1 l.length l.length a a, .c (.v (.int .i64 0))]) [u8n l false, u8n l true] := by
  have h16 := ok.hlen
  obtain ⟨r, h, e⟩ := syncR20_fc l s a b (by omega) hb
  rw [(sync_ok ok).1] at e
  subst e
  exact h
theorem appJ_ok {l : List Nat} {s : Nat} {a b : Int} {out : List Rcd} {r : Rcd} (ok : JOk l s a b out) (hb : By l) (hr : RcOk r) (ha : a < r.seq) (hl : l.length + 53 ≤ 16384) :
    ∃ l', FC Try.prog 14 [.o (jV 0 l.length s a b), .o (.a (rcC r))] [u8n l false] (.t [jV 1 l'.length s r.seq b, .c (.v (.int .i64 0))]) [u8n l false, u8n l' true] ∧ (JOk l' s r.seq b (out ++ [r]) ∧ l'.length = l.length + 53 ∧ By l') := by
  obtain ⟨x, h, e⟩ := appJ_fc l s a b r (by omega) hb
  obtain ⟨l', e1, h2⟩ := app_ok ok hb hr ha hl
  rw [e1] at e
  subst e
  exact ⟨l', h, h2⟩
theorem appR20_ok {l : List Nat} {s : Nat} {a b : Int} {out : List Rcd} {r : Rcd} (ok : JOk l s a b out) (hb : By l) (hr : RcOk r) (ha : a < r.seq) (hl : l.length + 53 ≤ 16384) :
    ∃ l', FC Try.prog 46 [.o (jV 0 l.length s a b), .o (.a (rcC r))] [u8n l false] (.t [jV 1 l'.length s r.seq b, .c (.v (.int .i64 0))]) [u8n l false, u8n l' true] ∧ (JOk l' s r.seq b (out ++ [r]) ∧ l'.length = l.length + 53 ∧ By l') := by
  obtain ⟨x, h, e⟩ := appR20_fc l s a b r (by omega) hb
  obtain ⟨l', e1, h2⟩ := app_ok ok hb hr ha hl
  rw [e1] at e
  subst e
  exact ⟨l', h, h2⟩
theorem recordsJ_ok {l : List Nat} {s : Nat} {a b : Int} {out : List Rcd} (ok : JOk l s a b out) (hb : By l) :
    FC Try.prog 17 [.o (jV 0 l.length s a b)] [u8n l false] (.o (.c (.s 1 0 out.length 16))) [u8n l false, recs out true] := by
  have h16 := ok.hlen
  obtain ⟨r, h, e⟩ := recordsJ_fc l s a b (by omega) hb
  rw [recs_ok ok] at e
  subst e
  exact h
theorem recordsR_ok {l : List Nat} {s : Nat} {a b : Int} {out : List Rcd} (ok : JOk l s a b out) (hb : By l) :
    FC Try.prog 21 [.o (jV 0 l.length s a b)] [u8n l false] (.o (.c (.s 1 0 out.length 16))) [u8n l false, recs out true] := by
  have h16 := ok.hlen
  obtain ⟨r, h, e⟩ := recordsR_fc l s a b (by omega) hb
  rw [recs_ok ok] at e
  subst e
  exact h
theorem sinceJ_ok {l : List Nat} {s : Nat} {a b : Int} {out : List Rcd} (ok : JOk l s a b out) (hb : By l) (u : Int) (o : List Rcd) (ho : newer u out = o) :
    FC Try.prog 30 [.o (jV 0 l.length s a b), int .i64 u] [u8n l false] (.o (.c (.s 1 0 o.length 16))) [u8n l false, recs o true] := by
  have h16 := ok.hlen
  obtain ⟨r, h, e⟩ := sinceJ_fc l s a b u (by omega) hb
  rw [recs_ok ok, ho] at e
  subst e
  exact h
theorem validJ_ok {l : List Nat} {s : Nat} {a b : Int} {out : List Rcd} (ok : JOk l s a b out) (hb : By l) :
    FC Try.prog 19 [.o (jV 0 l.length s a b)] [u8n l false] (boo true) [u8n l false] := by
  have h16 := ok.hlen
  obtain ⟨r, h, e⟩ := validJ_fc l s a b (by omega) hb
  rw [read_ok ok] at e
  subst e
  exact h
def rB : Rcd := ⟨4, 0, 0, ⟨true, false, 2, 0, 0, 0, 0⟩, ⟨0, 0, 0, 0, 0, 0⟩⟩
theorem rB_ok : RcOk rB := ⟨fun j hj => by rcases lt6 hj with rfl | rfl | rfl | rfl | rfl | rfl <;> (simp only [Pl.get, rB]; omega), by simp only [rB]; omega, by simp only [rB]; omega, by simp only [rB]; omega, by constructor <;> rfl⟩
theorem by_nil : By [] := fun i => by simp
set_option maxHeartbeats 3200000 in
set_option maxRecDepth 10000 in
theorem awake20_fc : FC Try.prog 9 [] [] (boo true) [] := by
  refine FC.one (FC.rj mix Try.func9 ?_)
  repeat (first | refine And.intro (by kernel_rfl) ?_ | refine And.intro (by decide) ?_)
  refine acall.nilAt 0 0 1 (.ints .u8 []) ?_
  refine FC.u (openJ_ok jok_nil by_nil) [0] ?_
  repeat (first | refine And.intro (by kernel_rfl) ?_ | refine And.intro (by decide) ?_)
  refine FC.x (appJ_ok (r := rA) jok_nil by_nil rA_ok (by show (0 : Int) < 1; omega) (by show 0 + 53 ≤ 16384; omega)) [1] (fun l1 h1 => ?_)
  obtain ⟨ok1, n1, b1⟩ := h1
  repeat (first | refine And.intro (by kernel_rfl) ?_ | refine And.intro (by decide) ?_)
  refine FC.u (syncJ_ok ok1 b1) [4] ?_
  repeat (first | refine And.intro (by kernel_rfl) ?_ | refine And.intro (by decide) ?_)
  have ok2 := (sync_ok ok1).2
  have n1' : l1.length = 53 := n1
  refine FC.x (appJ_ok (r := rB) ok2 b1 rB_ok (by show (1 : Int) < 4; omega) (by omega)) [5] (fun l2 h2 => ?_)
  obtain ⟨ok3, n2, b2⟩ := h2
  repeat (first | refine And.intro (by kernel_rfl) ?_ | refine And.intro (by decide) ?_)
  refine FC.u (sinceJ_ok ok3 b2 1 [rB] rfl) [6] ?_
  repeat (first | refine And.intro (by kernel_rfl) ?_ | refine And.intro (by decide) ?_)
  refine FC.u (validJ_ok ok3 b2) [6] ?_
  repeat (first | refine And.intro (by kernel_rfl) ?_ | refine And.intro (by decide) ?_)
  exact ⟨(), trivial, .id rfl trivial⟩
end Go.Sx.T1
namespace Go.Sx.T1
open Go.Proofs
structure XR where
  n : Nat
  k : Nat
  q : Int
  l : List Rcd
structure XRI (N : Nat) (x : XR) : Prop where
  n : x.l.length + x.n ≤ N
  q0 : 0 ≤ x.q
  q : x.q ≤ 3 * x.l.length
  le : ∀ r ∈ x.l, r.seq ≤ x.q
  g : RcG x.l
def recM (ts : List Int) (x : List Rcd × Nat) : Mem := [diceB ts x.2, diceL ts, recs x.1 true]
theorem rowR {p : Rcd} (l : List Rcd) (j : Nat) (hj : j < l.length + 1) :
    (if j < l.length then rcC (l.getD (0 + j) zR) else ((rcC p).drop ((0 + (j - l.length)) * 16)).take 16) = rcC ((l ++ [p]).getD j zR) := by
  by_cases h : j < l.length
  · rw [if_pos h, Nat.zero_add]
    simp [List.getD, List.getElem?_append_left h]
  · rw [if_neg h]
    obtain rfl : j = l.length := by omega
    rw [Nat.sub_self]
    simp [rcC, List.getD]
set_option maxHeartbeats 3200000 in
set_option maxRecDepth 10000 in
theorem records_fc (ts : List Int) (k N : Nat) (hl : ts.length ≤ 400) (hN : N ≤ 15) : ∃ x : List Rcd × Nat, FC Try.prog 45 [.o (.c (.p 0 0 0)), int .i64 N] [diceB ts k, diceL ts] (.o (.c (.s 2 0 x.1.length 16))) (recM ts x) ∧ RcG x.1 ∧ x.1.length ≤ N := by
  refine FC.rj mix Try.func45 ?_
  have wN : IntKind.i64.wrap ((N : Int) + 1) = (N : Int) + 1 := wrap64_in (by omega) (by omega)
  conv => whnf
  rw [wN]
  have h1 := dv_bd ts k (n := (N : Int) + 1) (by omega)
  refine FC.x (next_x ts k ((N : Int) + 1) (by omega) hl) [0, 1] (fun n en => ?_)
  rw [← en] at h1
  clear en
  obtain ⟨n, rfl⟩ : ∃ m : Nat, n = m := ⟨n.toNat, by omega⟩
  refine ALoop.goN (X := XR) (XRI N) (fun x => x.n) [0] [1] (fun x => [(5, .o (.c (.s 2 0 x.l.length 16))), (6, int .i64 x.q), (7, int .i64 x.n)])
    (fun x => [(0, ⟨.box [.s 1 0 ts.length 1, .v (.int .i64 (min x.k ts.length : Nat))], true⟩), (2, ⟨.rows 16 x.l.length (fun i => rcC (x.l.getD i zR)), true⟩)]) ⟨n, k + 1, 0, []⟩ 3
    ⟨by show 0 + n ≤ N; omega, Int.le_refl _, Int.le_refl _, (fun r h => by cases h), .nil, (fun r h => by cases h)⟩ (isAt.go [(2, .new 16)] ⟨rfl, rfl, rfl, trivial⟩ ⟨.inl rfl, ⟨.inr ⟨rfl, Nat.le_of_ble_eq_true rfl, fun _ h => absurd h (Nat.not_lt_zero _)⟩, rfl⟩, trivial⟩) ?_
  rintro ⟨n, k, q, l⟩ ⟨hn, hq0, hq, hle, hg⟩
  simp only at hn hq0 hq hle hg
  dsimp only [headF, headM]
  refine bselD (fun hgt => ?_) (fun hlt => ?_)
  · have hn0 : 0 < n := by have : (n : Int) > 0 := hgt; omega
    have wn : IntKind.i64.wrap ((n : Int) - 1) = ((n - 1 : Nat) : Int) := by rw [wrap64_in (by omega) (by omega)]; omega
    repeat refine AJoin.plain ?_
    have d3 := dv_bd ts k (n := 3) (by omega)
    refine FC.x (next_x ts k 3 (by omega) hl) [0, 1] (fun a ea => ?_)
    rw [← ea] at d3
    clear ea
    have w1 : IntKind.i64.wrap (1 + a) = 1 + a := wrap64_in (by omega) (by omega)
    have w2 : IntKind.i64.wrap (q + (1 + a)) = q + (1 + a) := wrap64_in (by omega) (by omega)
    repeat refine AJoin.plain ?_
    conv => whnf
    rw [w1, w2]
    refine FC.x (record_x ts (k + 1) (q + (1 + a)) hl ⟨by omega, by omega⟩) [0, 1] (fun r hr => ?_)
    obtain ⟨hv, hs⟩ := hr
    repeat (first | refine And.intro (by kernel_rfl) ?_ | refine And.intro (by decide) ?_)
    refine And.intro ⟨by show 0 + l.length ≤ l.length; omega, fun _ _ => rfl⟩ ?_
    refine And.intro ⟨Nat.le_of_ble_eq_true rfl, fun q hq => by have hq' : q < 1 := hq; obtain rfl : q = 0 := (by omega); rfl⟩ ?_
    refine And.intro (by show l.length + 1 ≤ 4294967296; omega) ?_
    repeat (first | refine And.intro (by kernel_rfl) ?_ | refine And.intro (by decide) ?_)
    have inv : XRI N ⟨n - 1, k + 1 + 15, q + (1 + a), l ++ [r]⟩ := by
      refine ⟨by simp; omega, by simp only; omega, by simp; omega, ?_, ?_, ?_⟩
      · intro s hs'
        simp only [List.mem_append, List.mem_singleton] at hs'
        rcases hs' with hs' | rfl
        · have := hle s hs'; simp only; omega
        · simp only; omega
      · refine List.pairwise_append.2 ⟨hg.up, List.pairwise_singleton _ _, fun s hs' t ht => ?_⟩
        simp only [List.mem_singleton] at ht
        subst ht
        have := hle s hs'
        omega
      · intro s hs'
        simp only [List.mem_append, List.mem_singleton] at hs'
        rcases hs' with hs' | rfl
        · exact hg.v s hs'
        · exact hv
    refine ⟨⟨n - 1, k + 1 + 15, q + (1 + a), l ++ [r]⟩, ⟨inv, by show n - 1 < n; omega⟩, isAt.go [(2, .to 4)] ⟨congrArg (fun n => SV.o (.c (.s 4 0 n 16))) (show l.length + 1 = (l ++ [r]).length by simp), rfl, congrArg (int .i64) wn, trivial⟩ ⟨.inl rfl, leB.rows (by simp) (fun j hj => ?_) id, trivial⟩⟩
    have hj' : j < (l ++ [r]).length := hj
    exact rowR (p := r) l j (by simpa using hj')
  · have hn0 : n = 0 := by have : ¬ (n : Int) > 0 := hlt; omega
    repeat (first | refine And.intro (by kernel_rfl) ?_ | refine And.intro (by decide) ?_)
    exact ⟨(l, k), ⟨hg, by show l.length ≤ N; omega⟩, .id rfl ⟨.inl rfl, .inl rfl, .inl rfl, trivial⟩⟩
end Go.Sx.T1
namespace Go.Sx.T1
open Go.Proofs Go.Sx.Crc
/-! law20.random -/
theorem lastS_or : ∀ (out : List Rcd) (q : Int), lastS q out = q ∨ ∃ r ∈ out, lastS q out = r.seq
  | [], _ => .inl rfl
  | r :: t, _ => .inr (by
    rcases lastS_or t r.seq with h | ⟨s, h1, h2⟩
    · exact ⟨r, by simp, h⟩
    · exact ⟨s, by simp [h1], h2⟩)
theorem rcg_last {rs : List Rcd} (g : RcG rs) {i : Nat} (hi : i < rs.length) : lastS 0 (rs.take i) < (rs.getD i zR).seq ∧ RcOk (rs.getD i zR) := by
  have hm : rs.getD i zR = rs[i] := by rw [List.getD_eq_getElem?_getD, List.getElem?_eq_getElem hi]; rfl
  have hv := g.v rs[i] (List.getElem_mem hi)
  rw [hm]
  refine ⟨?_, hv.ok⟩
  rcases lastS_or (rs.take i) 0 with h | ⟨r, h1, h2⟩
  · rw [h]; have := hv.seq; omega
  · rw [h2]
    obtain ⟨j, hj, rfl⟩ := List.getElem_of_mem h1
    rw [List.length_take] at hj
    rw [List.getElem_take]
    exact List.pairwise_iff_getElem.1 g.up j i (by omega) hi (by omega)
theorem rcg_low {rs : List Rcd} (g : RcG rs) (i : Nat) : lastS 0 (rs.take i) ≤ 100 := by
  rcases lastS_or (rs.take i) 0 with h | ⟨r, h1, h2⟩
  · rw [h]; omega
  · rw [h2]
    exact (g.v r (List.mem_of_mem_take h1)).seq.2
structure RX where
  i : Nat
  l : List Nat
  s : Nat
  a : Int
  b : Int
  k : Nat
structure RX.Ok (rs : List Rcd) (x : RX) : Prop where
  i : x.i ≤ rs.length
  n : x.l.length = 53 * x.i
  by_ : By x.l
  ok : JOk x.l x.s x.a x.b (rs.take x.i)
structure RG where
  l : List Nat
  s : Nat
  a : Int
  b : Int
  k : Nat
  out : List Rcd
structure RG.Ok (x : RG) : Prop where
  n : x.out.length ≤ 8
  by_ : By x.l
  ok : JOk x.l x.s x.a x.b x.out
  g : RcG x.out
set_option maxHeartbeats 3200000 in
set_option maxRecDepth 10000 in
theorem random_x (ts : List Int) (k : Nat) (hl : ts.length ≤ 400) :
    ∃ x : RG, FC Try.prog 20 [.o (.c (.p 0 0 0))] [diceB ts k, diceL ts] (.o (jV 2 x.l.length x.s x.a x.b)) [diceB ts x.k, diceL ts, u8n x.l true] ∧ x.Ok := by
  refine FC.rj mix Try.func20 ?_
  repeat (first | refine And.intro (by kernel_rfl) ?_ | refine And.intro (by decide) ?_)
  refine acall.nilAt 0 0 1 (.ints .u8 []) ?_
  refine FC.u (openR_ok jok_nil by_nil) [3] ?_
  repeat (first | refine And.intro (by kernel_rfl) ?_ | refine And.intro (by decide) ?_)
  refine FC.x (records_fc ts k 8 hl (by omega)) [0, 1] (fun p hp => ?_)
  obtain ⟨rs, k1⟩ := p
  obtain ⟨hg, hn⟩ := hp
  simp only at hg hn
  repeat (first | refine And.intro (by kernel_rfl) ?_ | refine And.intro (by decide) ?_)
  refine ALoop.goN (X := RX) (RX.Ok rs) (fun x => rs.length - x.i) [0, 2, 3, 5] [1, 2, 6] (fun x => [(6, int .i64 x.i)])
    (fun x => [(0, ⟨.box [.s 1 0 ts.length 1, .v (.int .i64 (min x.k ts.length : Nat))], true⟩), (4, ⟨.ints .u8 (zl x.l), true⟩), (5, ⟨.box [.s 4 0 x.l.length 1, .v (.int .i64 x.s), .v (.int .i64 x.a), .v (.int .i64 x.b)], true⟩)]) ⟨0, [], 0, 0, 0, k1⟩ 7
    ⟨Nat.zero_le _, rfl, by_nil, jok_nil⟩ (isAt.go [] ⟨rfl, trivial⟩ ⟨.inl rfl, .inl rfl, .inl rfl, trivial⟩) ?_
  rintro ⟨i, l, s, a, b, k⟩ ⟨hi, hln, hb, ok⟩
  simp only at hi hln hb ok
  dsimp only [headF, headM]
  refine bselD (fun h1 => ?_) (fun h1 => ?_)
  · have h1' : i < rs.length := by have h2 : (i : Int) < (rs.length : Int) := h1; omega
    have ei : 0 + (i : Int).toNat = i := by simp
    have wi : IntKind.i64.wrap ((i : Int) + 1) = ((i + 1 : Nat) : Int) := wrap64_in (by omega) (by omega)
    obtain ⟨hlt, hok⟩ := rcg_last hg h1'
    have hfl := ok.full
    have ha : a < (rs.getD i zR).seq := by rw [ok.ha, seqF_last]; exact hlt
    repeat refine AJoin.plain ?_
    refine And.intro ⟨by omega, h1⟩ ?_
    refine And.intro (by show 0 + (i : Int).toNat < rs.length; omega) ?_
    conv => whnf
    rw [ei]
    refine FC.x (appR20_ok (r := rs.getD i zR) ok hb hok ha (by omega)) [4] (fun l' h' => ?_)
    obtain ⟨ok', n', hb'⟩ := h'
    rw [← take_next h1'] at ok'
    repeat (first | refine And.intro (by kernel_rfl) ?_ | refine And.intro (by decide) ?_)
    refine FC.x (one_x ts k 3 (by omega) (by omega) hl) [0, 1] (fun o _ => ?_)
    repeat (first | refine And.intro (by kernel_rfl) ?_ | refine And.intro (by decide) ?_)
    refine bsel_intro (fun ho => ?_) (fun ho => ?_)
    · repeat (first | refine And.intro (by kernel_rfl) ?_ | refine And.intro (by decide) ?_)
      refine FC.u (syncR_ok ok' hb') [7] ?_
      repeat (first | refine And.intro (by kernel_rfl) ?_ | refine And.intro (by decide) ?_)
      exact ⟨⟨i + 1, l', l'.length, (rs.getD i zR).seq, (rs.getD i zR).seq, k + 1⟩, ⟨⟨by show i + 1 ≤ rs.length; omega, by show l'.length = 53 * (i + 1); omega, hb', (sync_ok ok').2⟩, by show rs.length - (i + 1) < rs.length - i; omega⟩,
        isAt.go [(4, .to 8)] ⟨congrArg (int .i64) wi, trivial⟩ ⟨.inl rfl, .inl rfl, .inl rfl, trivial⟩⟩
    · repeat (first | refine And.intro (by kernel_rfl) ?_ | refine And.intro (by decide) ?_)
      exact ⟨⟨i + 1, l', s, (rs.getD i zR).seq, b, k + 1⟩, ⟨⟨by show i + 1 ≤ rs.length; omega, by show l'.length = 53 * (i + 1); omega, hb', ok'⟩, by show rs.length - (i + 1) < rs.length - i; omega⟩,
        isAt.go [(4, .to 7)] ⟨congrArg (int .i64) wi, trivial⟩ ⟨.inl rfl, .inl rfl, .inl rfl, trivial⟩⟩
  · have hi' : rs.length ≤ i := by have h2 : ¬ (i : Int) < (rs.length : Int) := h1; omega
    rw [List.take_of_length_le hi'] at ok
    repeat (first | refine And.intro (by kernel_rfl) ?_ | refine And.intro (by decide) ?_)
    exact ⟨⟨l, s, a, b, k, rs⟩, ⟨hn, hb, ok, hg⟩, isEnd.go [(2, .to 4)] rfl ⟨.inl rfl, .inl rfl, .inl rfl, trivial⟩⟩
end Go.Sx.T1
namespace Go.Sx.T1
open Go.Proofs Go.Sx.Crc
/-! a journal's device cut anywhere -/
theorem decF_few {l : List Nat} (h : l.length < 53) : (decF l).2 ≠ 0 := fun h0 => absurd (decF_short h0) (by omega)
theorem torn_scan : ∀ (out : List Rcd) (l : List Nat) (q : Int) (n m : Nat), Ch l q out → n ≤ l.length → out.length ≤ m → scanN m (l.take n) q = out.take (n / 53)
  | [], l, q, n, m, h, _, _ => by rw [show l = [] from h]; simp [scanN_nil]
  | r :: t, l, q, n, 0, _, _, hm => by rw [List.length_cons] at hm; omega
  | r :: t, l, q, n, m + 1, ⟨h1, h2, h3⟩, hn, hm => by
    have h53 := decF_short (l := l) (by rw [h1])
    rcases Nat.lt_or_ge n 53 with hlt | hge
    · rw [show n / 53 = 0 by omega, List.take_zero, scanN, if_pos (.inl (decF_few (by rw [List.length_take]; omega)))]
    · have hd : decF (l.take n) = (r, 0) := by rw [decF_take hge h53, h1]
      have hc : ¬ ((decF (l.take n)).2 ≠ 0 ∨ (decF (l.take n)).1.seq ≤ q) := by
        rw [hd]
        rintro (h | h)
        · exact h rfl
        · have : r.seq ≤ q := h
          omega
      rw [scanN, if_neg hc, hd, List.drop_take, torn_scan t (l.drop 53) r.seq (n - 53) m h3 (by rw [List.length_drop]; omega) (by rw [List.length_cons] at hm; omega),
        show n / 53 = (n - 53) / 53 + 1 by omega, List.take_succ_cons]
theorem valid_of {l : List Nat} {s : Nat} (hl : l.length ≤ 16384) (hs : s ≤ l.length) : validD (zl l) s = true := by
  unfold validD
  rw [zl_len]
  simp only [Bool.and_eq_true, decide_eq_true_eq]
  omega
theorem open_torn {l : List Nat} {s n : Nat} {out : List Rcd} (hc : Ch l 0 out) (hl : l.length ≤ 16384) (hn : n ≤ l.length) (hs : s ≤ n) :
    openF (l.take n) s = ⟨l.take (53 * (n / 53)), ((min s (53 * (n / 53)) : Nat) : Int), seqF (out.take (n / 53)) (out.take (n / 53)).length, seqF (out.take (n / 53)) (min s (53 * (n / 53)) / 53), 0⟩ := by
  have hlen := hc.len
  have hnl : (l.take n).length = n := by rw [List.length_take]; omega
  have hv : ¬ validD (zl (l.take n)) s = false := by rw [valid_of (by omega) (by omega)]; simp
  have hsc : scanN (l.take n).length (l.take n) 0 = out.take (n / 53) := by
    rw [hnl]
    rcases Nat.lt_or_ge n out.length with h | h
    · -- the fuel is enough: as many records as bytes at most
      have h2 := torn_scan out l 0 n (out.length) hc hn (Nat.le_refl _)
      have h3 := scanN_take (out.length) (l.take n) 0 n (by rw [h2, List.length_take]; omega)
      have : ∀ (m : Nat) (x : List Nat) (q : Int), x.length ≤ 53 * m → ∀ m', m ≤ m' → scanN m' x q = scanN m x q := by
        intro m
        induction m with
        | zero =>
          intro x q hx m' _
          have : x = [] := List.eq_nil_of_length_eq_zero (by omega)
          rw [this, scanN_nil, scanN_nil]
        | succ m ih =>
          intro x q hx m' hm
          cases m' with
          | zero => omega
          | succ m' =>
            rw [scanN, scanN]
            split
            · rfl
            · rw [ih _ _ (by rw [List.length_drop]; omega) m' (by omega)]
      rw [← this n (l.take n) 0 (by rw [hnl]; omega) out.length (by omega)]
      exact h2
    · exact torn_scan out l 0 n n hc hn h
  have hk : (out.take (n / 53)).length = n / 53 := by rw [List.length_take]; omega
  rw [openF, if_neg hv, hsc, hk, Int.toNat_natCast, List.take_take, Nat.mul_comm (n / 53) 53, Nat.min_eq_left (by omega)]
theorem torn_ok {l : List Nat} {s n : Nat} {out : List Rcd} (hc : Ch l 0 out) (hl : l.length ≤ 16384) (hn : n ≤ l.length) (hs : s ≤ n) :
    JOk (l.take (53 * (n / 53))) (min s (53 * (n / 53))) (seqF (out.take (n / 53)) (out.take (n / 53)).length) (seqF (out.take (n / 53)) (min s (53 * (n / 53)) / 53)) (out.take (n / 53)) :=
  jok_of (hc.take (n / 53)) (by rw [List.length_take]; omega) (by rw [List.length_take]; omega)
/-- Open of a device that was cut -/
theorem openT_x {l : List Nat} {s n : Nat} {out : List Rcd} (hc : Ch l 0 out) (hb : By l) (hl : l.length ≤ 16384) (hn : n ≤ l.length) (hs : s ≤ n) (N : Nat) (hN : N = (l.take n).length) :
    ∃ x : List Nat × Nat × Int × Int, FC Try.prog 11 [.o (.a [.s 0 0 N 1, .v (.int .i64 s)])] [u8n (l.take n) false] (.t [jV 1 x.1.length x.2.1 x.2.2.1 x.2.2.2, .c (.v (.int .i64 0))]) [u8n (l.take n) false, u8n x.1 true] ∧
      (JOk x.1 x.2.1 x.2.2.1 x.2.2.2 (out.take (n / 53)) ∧ By x.1 ∧ x.1.length = 53 * (n / 53)) := by
  subst hN
  obtain ⟨r, h, e⟩ := openJ_fc (l.take n) s (by rw [List.length_take]; omega) (hb.take n)
  rw [open_torn hc hl hn hs] at e
  subst e
  exact ⟨(_, _, _, _), h, torn_ok hc hl hn hs, hb.take _, by rw [List.length_take]; omega⟩
end Go.Sx.T1
namespace Go.Sx.T1
open Go.Proofs Go.Sx.Crc
namespace Drops20
theorem mod_x (n m : Int) (h1 : 1 ≤ m) (hm : m < 9223372036854775808) : ∃ v : Int, FC Try.prog 22 [int .i64 n, int .i64 m] [] (int .i64 v) [] ∧ 0 ≤ v ∧ v < m :=
  ⟨mMod n m, mod_fc n m hm, mMod_bd h1⟩
def stay (u b : Int) (r : Rcd) : Bool := decide (r.seq > u) || decide (r.seq ≥ b)
def keepF (u b : Int) (l : List Rcd) : List Rcd := l.filter (stay u b)
theorem keep_next {u b : Int} {l : List Rcd} {j : Nat} (hj : j < l.length) : keepF u b (l.take (j + 1)) = keepF u b (l.take j) ++ (if stay u b (l.getD j zR) = true then [l.getD j zR] else []) := by
  rw [take_next hj, keepF, keepF, List.filter_append]
  congr 1
  cases hb : stay u b (l.getD j zR) with
  | true => rw [List.filter_cons, hb]; rfl
  | false => rw [List.filter_cons, hb]; rfl
theorem keep_all {u b : Int} : ∀ {out : List Rcd} {l : List Nat} {q : Int}, Ch l q out → (u ≤ q ∨ b ≤ q + 1) → keepF u b out = out
  | [], _, _, _, _ => rfl
  | r :: t, l, q, ⟨_, h2, h3⟩, h => by
    have hs : stay u b r = true := by
      unfold stay
      simp only [Bool.or_eq_true, decide_eq_true_eq]
      omega
    have ih := keep_all (u := u) (b := b) h3 (by omega)
    unfold keepF at ih ⊢
    rw [List.filter_cons, if_pos hs, ih]
theorem keep_drop {u b : Int} : ∀ {out : List Rcd} {l : List Nat} {q : Int}, Ch l q out → keepF u b out = out.drop (dropK u b out)
  | [], _, _, _ => rfl
  | r :: t, l, q, ⟨h1, h2, h3⟩ => by
    rw [dropK]
    by_cases h : r.seq ≤ u ∧ r.seq < b
    · have hs : ¬ stay u b r = true := by
        unfold stay
        simp only [Bool.or_eq_true, decide_eq_true_eq]
        omega
      have ih := keep_drop (u := u) (b := b) h3
      unfold keepF at ih ⊢
      rw [if_pos h, List.filter_cons, if_neg hs, ih, List.drop_succ_cons]
    · have hs : stay u b r = true := by
        unfold stay
        simp only [Bool.or_eq_true, decide_eq_true_eq]
        omega
      have ih := keep_all (u := u) (b := b) h3 (by omega)
      unfold keepF at ih ⊢
      rw [if_neg h, List.filter_cons, if_pos hs, ih, List.drop_zero]
theorem dropJ_ok {l : List Nat} {s : Nat} {a b u : Int} {out : List Rcd} (ok : JOk l s a b out) (hb : By l) :
    ∃ k : Nat, FC Try.prog 28 [.o (jV 0 l.length s a b), int .i64 u] [u8n l false] (.t [.a [.s 1 (53 * k) (l.drop (53 * k)).length 1, .v (.int .i64 ((s - 53 * k : Nat) : Int)), .v (.int .i64 a), .v (.int .i64 b)], .c (.v (.int .i64 0))]) [u8n l false, u8n l true] ∧
      (keepF u b out = out.drop k ∧ 53 * k ≤ l.length ∧ JOk (l.drop (53 * k)) (s - 53 * k) a b (out.drop k)) := by
  have h16 := ok.hlen
  obtain ⟨k, hk, k1, k2, k3, ok'⟩ := drop_ok (u := u) ok
  obtain ⟨d, h, e⟩ := dropJ_fc l s a b u (by omega) hb
  rw [dropO, read_ok ok, if_pos rfl, ← hk] at e
  subst e
  refine ⟨k, ?_, by rw [keep_drop ok.ch, hk], k2, ok'⟩
  have es : ((s - 53 * k : Nat) : Int) = (s : Int) - ((53 * k : Nat) : Int) := by omega
  rw [es]
  exact h
theorem openJ_s {l : List Nat} {off s : Nat} {a b : Int} {out : List Rcd} (hoff : off ≤ l.length) (ok : JOk (l.drop off) s a b out) (hb : By l) :
    FC Try.prog 11 [.o (.a [.s 0 off (l.drop off).length 1, .v (.int .i64 s)])] [u8n l false] (.t [jV 1 (l.drop off).length s a b, .c (.v (.int .i64 0))]) [u8n l false, u8n (l.drop off) true] :=
  FC.shiftN (xs := zl l) (off := off) (args0 := [.o (.a [.s 0 0 (l.drop off).length 1, .v (.int .i64 s)])]) (R1 := [u8n (l.drop off) true]) (by rw [zl_len]; exact hoff) rfl trivial ⟨nzB.ints, trivial⟩ rfl (by rw [zl_dropS]; exact openJ_ok ok (hb.drop off))
theorem recordsJ_s {l : List Nat} {off s : Nat} {a b : Int} {out : List Rcd} (hoff : off ≤ l.length) (ok : JOk (l.drop off) s a b out) (hb : By l) :
    FC Try.prog 17 [.o (.a [.s 0 off (l.drop off).length 1, .v (.int .i64 s), .v (.int .i64 a), .v (.int .i64 b)])] [u8n l false] (.o (.c (.s 1 0 out.length 16))) [u8n l false, recs out true] :=
  FC.shiftN (xs := zl l) (off := off) (args0 := [.o (.a [.s 0 0 (l.drop off).length 1, .v (.int .i64 s), .v (.int .i64 a), .v (.int .i64 b)])]) (R1 := [recs out true]) (by rw [zl_len]; exact hoff) rfl trivial ⟨nzB.rows (fun _ _ => rfl), trivial⟩ rfl (by rw [zl_dropS]; exact recordsJ_ok ok (hb.drop off))
set_option maxHeartbeats 3200000 in
set_option maxRecDepth 10000 in
theorem law (ts : List Int) (upto : Int) : FC Try.prog 7 [.o (.c (.s 0 0 ts.length 1)), int .i64 upto] [diceL ts] (boo true) [diceL ts] := by
  refine FC.one (FC.rj mix Try.func7 ?_)
  repeat (first | refine And.intro (by kernel_rfl) ?_ | refine And.intro (by decide) ?_)
  refine FC.u (light_fc ts) [0] ?_
  refine bselNot (bselD (fun hl => ?_) (fun hl => ?_))
  rotate_left
  · repeat (first | refine And.intro (by kernel_rfl) ?_ | refine And.intro (by decide) ?_)
    refine FC.u awake20_fc [] ?_
    exact ⟨(), trivial, .id rfl ⟨.inl rfl, trivial⟩⟩
  repeat refine AJoin.plain ?_
  refine FC.u (roll_fc ts) [0] ?_
  repeat (first | refine And.intro (by kernel_rfl) ?_ | refine And.intro (by decide) ?_)
  refine FC.x (random_x ts 0 hl) [1, 0] (fun x hx => ?_)
  obtain ⟨l, s, a, b, k0, out⟩ := x
  obtain ⟨hn8, hb, ok, hg⟩ := hx
  simp only at hn8 hb ok hg
  have hf := ok.full
  have ha0 : 0 ≤ a ∧ a ≤ 100 := by
    rw [ok.ha, seqF_last]
    have := rcg_low hg out.length
    rw [List.take_length] at this
    exact ⟨ok.ch.le_last, this⟩
  repeat (first | refine And.intro (by kernel_rfl) ?_ | refine And.intro (by decide) ?_)
  have wa : IntKind.i64.wrap (a + 3) = a + 3 := wrap64_in (by omega) (by omega)
  conv => whnf
  rw [wa]
  refine FC.x (mod_x upto (a + 3) (by omega) (by omega)) [] (fun n hn => ?_)
  repeat (first | refine And.intro (by kernel_rfl) ?_ | refine And.intro (by decide) ?_)
  refine FC.x (dropJ_ok (u := n) ok hb) [2] (fun k hk => ?_)
  obtain ⟨hkp, hkl, ok'⟩ := hk
  repeat (first | refine And.intro (by kernel_rfl) ?_ | refine And.intro (by decide) ?_)
  refine FC.u (recordsR_ok ok hb) [2] ?_
  repeat (first | refine And.intro (by kernel_rfl) ?_ | refine And.intro (by decide) ?_)
  refine ALoop.goN (X := Nat) (fun i => i ≤ out.length) (fun i => out.length - i) [4, 5, 6, 7, 8, 9, 11] [0, 1, 2, 3, 4, 5, 6] (fun i => [(10, .o (.c (.s 7 0 (keepF n b (out.take i)).length 16))), (12, int .i64 i)]) (fun i => [(7, ⟨.rows 16 (keepF n b (out.take i)).length (fun q => rcC ((keepF n b (out.take i)).getD q zR)), true⟩)]) 0 8 (Nat.zero_le _)
    (isAt.go [(7, .new 16)] ⟨rfl, rfl, trivial⟩ ⟨⟨.inr ⟨rfl, Nat.le_of_ble_eq_true rfl, fun _ h => absurd h (Nat.not_lt_zero _)⟩, rfl⟩, trivial⟩) ?_
  intro i hi
  dsimp only [headF, headM]
  refine bselD (fun h1 => ?_) (fun h1 => ?_)
  · have h1' : i < out.length := by have h2 : (i : Int) < (out.length : Int) := h1; omega
    have ei : 0 + (i : Int).toNat = i := by simp
    have wi : IntKind.i64.wrap ((i : Int) + 1) = ((i + 1 : Nat) : Int) := wrap64_in (by omega) (by omega)
    have hnl : (keepF n b (out.take i)).length ≤ out.length := Nat.le_trans (List.length_filter_le _ _) (by rw [List.length_take]; omega)
    have hnx := keep_next (u := n) (b := b) h1'
    repeat refine AJoin.plain ?_
    refine And.intro ⟨by omega, h1⟩ ?_
    refine And.intro (by show 0 + (i : Int).toNat < out.length; omega) ?_
    conv => whnf
    rw [ei]
    repeat (first | refine And.intro (by kernel_rfl) ?_ | refine And.intro (by decide) ?_)
    refine bselD (fun c1 => ?_) (fun c1 => ?_)
    · repeat (first | refine And.intro (by kernel_rfl) ?_ | refine And.intro (by decide) ?_)
      rw [if_pos (show stay n b (out.getD i zR) = true by unfold stay; rw [decide_eq_true c1]; rfl)] at hnx
      generalize hw : keepF n b (out.take i) = w at *
      refine And.intro ⟨by omega, h1⟩ ?_
      refine And.intro (by show 0 + (i : Int).toNat < out.length; omega) ?_
      conv => whnf
      rw [ei]
      refine And.intro ⟨by show 0 + w.length ≤ w.length; omega, fun _ _ => rfl⟩ ?_
      refine And.intro ⟨Nat.le_of_ble_eq_true rfl, fun q hq => by have hq' : q < 1 := hq; obtain rfl : q = 0 := (by omega); rfl⟩ ?_
      refine And.intro (by show w.length + 1 ≤ 4294967296; omega) ?_
      repeat (first | refine And.intro (by kernel_rfl) ?_ | refine And.intro (by decide) ?_)
      refine ⟨i + 1, ⟨by omega, by show out.length - (i + 1) < out.length - i; omega⟩, isAt.go [(7, .to 9)] ⟨congrArg (fun n => SV.o (.c (.s 9 0 n 16))) (by rw [hnx]; simp), congrArg (int .i64) wi, trivial⟩ ⟨leB.rows (by rw [hnx]; simp) (fun j hj => ?_) id, trivial⟩⟩
      rw [hnx] at hj ⊢
      have hj' : j < (w ++ [out.getD i zR]).length := hj
      exact rowR2 (p := out.getD i zR) w j (by simpa using hj')
    · repeat (first | refine And.intro (by kernel_rfl) ?_ | refine And.intro (by decide) ?_)
      refine And.intro ⟨by omega, h1⟩ ?_
      refine And.intro (by show 0 + (i : Int).toNat < out.length; omega) ?_
      conv => whnf
      rw [ei]
      repeat (first | refine And.intro (by kernel_rfl) ?_ | refine And.intro (by decide) ?_)
      refine bselD (fun c2 => ?_) (fun c2 => ?_)
      · repeat (first | refine And.intro (by kernel_rfl) ?_ | refine And.intro (by decide) ?_)
        rw [if_pos (show stay n b (out.getD i zR) = true by unfold stay; rw [decide_eq_true c2, Bool.or_true])] at hnx
        generalize hw : keepF n b (out.take i) = w at *
        refine And.intro ⟨by omega, h1⟩ ?_
        refine And.intro (by show 0 + (i : Int).toNat < out.length; omega) ?_
        conv => whnf
        rw [ei]
        refine And.intro ⟨by show 0 + w.length ≤ w.length; omega, fun _ _ => rfl⟩ ?_
        refine And.intro ⟨Nat.le_of_ble_eq_true rfl, fun q hq => by have hq' : q < 1 := hq; obtain rfl : q = 0 := (by omega); rfl⟩ ?_
        refine And.intro (by show w.length + 1 ≤ 4294967296; omega) ?_
        repeat (first | refine And.intro (by kernel_rfl) ?_ | refine And.intro (by decide) ?_)
        refine ⟨i + 1, ⟨by omega, by show out.length - (i + 1) < out.length - i; omega⟩, isAt.go [(7, .to 9)] ⟨congrArg (fun n => SV.o (.c (.s 9 0 n 16))) (by rw [hnx]; simp), congrArg (int .i64) wi, trivial⟩ ⟨leB.rows (by rw [hnx]; simp) (fun j hj => ?_) id, trivial⟩⟩
        rw [hnx] at hj ⊢
        have hj' : j < (w ++ [out.getD i zR]).length := hj
        exact rowR2 (p := out.getD i zR) w j (by simpa using hj')
      · rw [if_neg (show ¬ stay n b (out.getD i zR) = true by unfold stay; rw [decide_eq_false c1, decide_eq_false c2]; simp), List.append_nil] at hnx
        repeat (first | refine And.intro (by kernel_rfl) ?_ | refine And.intro (by decide) ?_)
        refine ⟨i + 1, ⟨by omega, by show out.length - (i + 1) < out.length - i; omega⟩, isAt.go [] ⟨congrArg (fun n : List Rcd => SV.o (.c (.s 7 0 n.length 16))) hnx.symm, congrArg (int .i64) wi, trivial⟩ ⟨?_, trivial⟩⟩
        rw [hnx]
        exact .inl rfl
  · have hi' : out.length ≤ i := by have h2 : ¬ (i : Int) < (out.length : Int) := h1; omega
    repeat (first | refine And.intro (by kernel_rfl) ?_ | refine And.intro (by decide) ?_)
    rw [List.take_of_length_le hi', hkp]
    refine FC.u (openJ_s hkl ok' hb) [4] ?_
    repeat (first | refine And.intro (by kernel_rfl) ?_ | refine And.intro (by decide) ?_)
    refine FC.u awake20_fc [] ?_
    repeat (first | refine And.intro (by kernel_rfl) ?_ | refine And.intro (by decide) ?_)
    refine FC.u (recordsJ_s hkl ok' hb) [4] ?_
    refine FC.u (same18_eq (out.drop k) (by rw [List.length_drop]; omega)) [10, 7] ?_
    repeat (first | refine And.intro (by kernel_rfl) ?_ | refine And.intro (by decide) ?_)
    refine bselE (fun _ => ?_) (fun h => absurd rfl h)
    repeat (first | refine And.intro (by kernel_rfl) ?_ | refine And.intro (by decide) ?_)
    refine bselE (fun _ => ?_) (fun h => absurd rfl h)
    repeat (first | refine And.intro (by kernel_rfl) ?_ | refine And.intro (by decide) ?_)
    refine FC.u (same20_s l (53 * k) ((s - 53 * k : Nat) : Int) a b hkl (by omega)) [4, 8] ?_
    repeat (first | refine And.intro (by kernel_rfl) ?_ | refine And.intro (by decide) ?_)
    exact ⟨(), trivial, .id rfl ⟨.inl rfl, trivial⟩⟩
end Drops20
end Go.Sx.T1
