/- Contracts of the functions that JournalRaw reaches, and the walk of the law, part 3. Conditions: none. -/
import Derived.Test.YtifdfeahgpghaaaJournalRawB
namespace Go.Sx.T1
open Go.Proofs Go.Sx.Crc
/-! the contracts at a journal -/
theorem openJ_ok {l : List Nat} {s : Nat} {a b : Int} {out : List Rcd} (ok : JOk l s a b out) (hb : By l) :
    FC Try.prog 11 [.o (.a [.s 0 0 l.length 1, .v (.int .i64 s)])] [u8n l false] (.t [jV 1 l.length s a b, .c (.v (.int .i64 0))]) [u8n l false, u8n l true] := by
  have h16 := ok.hlen
  obtain ⟨r, h, e⟩ := openJ_fc l s (by omega) hb
  rw [open_ok ok] at e
  subst e
  exact h
theorem openR_ok {l : List Nat} {s : Nat} {a b : Int} {out : List Rcd} (ok : JOk l s a b out) (hb : By l) :
    FC Try.prog 44 [.o (.a [.s 0 0 l.length 1, .v (.int .i64 s)])] [u8n l false] (.t [jV 1 l.length s a b, .c (.v (.int .i64 0))]) [u8n l false, u8n l true] := by
  have h16 := ok.hlen
  obtain ⟨r, h, e⟩ := openR_fc l s (by omega) hb
  rw [open_ok ok] at e
  subst e
  exact h
theorem syncJ_ok {l : List Nat} {s : Nat} {a b : Int} {out : List Rcd} (ok : JOk l s a b out) (hb : By l) :
    FC Try.prog 15 [.o (jV 0 l.length s a b)] [u8n l false] (.t [jV 1 l.length l.length a a, .c (.v (.int .i64 0))]) [u8n l false, u8n l true] := by
  have h16 := ok.hlen
  obtain ⟨r, h, e⟩ := syncJ_fc l s a b (by omega) hb
  rw [(sync_ok ok).1] at e
  subst e
  exact h
theorem syncR_ok {l : List Nat} {s : Nat} {a b : Int} {out : List Rcd} (ok : JOk l s a b out) (hb : By l) :
    FC Try.prog 47 [.o (jV 0 l.length s a b)] [u8n l false] (.t [jV 1 l.length l.length a a, .c (.v (.int .i64 0))]) [u8n l false, u8n l true] := by
  have h16 := ok.hlen
  obtain ⟨r, h, e⟩ := syncR20_fc l s a b (by omega) hb
  rw [(sync_ok ok).1] at e
  subst e
  exact h
theorem appJ_ok {l : List Nat} {s : Nat} {a b : Int} {out : List Rcd} {r : Rcd} (ok : JOk l s a b out) (hb : By l) (hr : RcOk r) (ha : a < r.seq) (hl : l.length + 53 ≤ 16384) :
    ∃ l', FC Try.prog 14 [.o (jV 0 l.length s a b), .o (.a (rcC r))] [u8n l false] (.t [jV 1 l'.length s r.seq b, .c (.v (.int .i64 0))]) [u8n l false, u8n l' true] ∧ (JOk l' s r.seq b (out ++ [r]) ∧ l'.length = l.length + 53 ∧ By l') := by
  obtain ⟨x, h, e⟩ := appJ_fc l s a b r (by omega) hb
  obtain ⟨l', e1, h2⟩ := app_ok ok hb hr ha hl
  rw [e1] at e
  subst e
  exact ⟨l', h, h2⟩
theorem appR20_ok {l : List Nat} {s : Nat} {a b : Int} {out : List Rcd} {r : Rcd} (ok : JOk l s a b out) (hb : By l) (hr : RcOk r) (ha : a < r.seq) (hl : l.length + 53 ≤ 16384) :
    ∃ l', FC Try.prog 46 [.o (jV 0 l.length s a b), .o (.a (rcC r))] [u8n l false] (.t [jV 1 l'.length s r.seq b, .c (.v (.int .i64 0))]) [u8n l false, u8n l' true] ∧ (JOk l' s r.seq b (out ++ [r]) ∧ l'.length = l.length + 53 ∧ By l') := by
  obtain ⟨x, h, e⟩ := appR20_fc l s a b r (by omega) hb
  obtain ⟨l', e1, h2⟩ := app_ok ok hb hr ha hl
  rw [e1] at e
  subst e
  exact ⟨l', h, h2⟩
theorem recordsJ_ok {l : List Nat} {s : Nat} {a b : Int} {out : List Rcd} (ok : JOk l s a b out) (hb : By l) :
    FC Try.prog 17 [.o (jV 0 l.length s a b)] [u8n l false] (.o (.c (.s 1 0 out.length 16))) [u8n l false, recs out true] := by
  have h16 := ok.hlen
  obtain ⟨r, h, e⟩ := recordsJ_fc l s a b (by omega) hb
  rw [recs_ok ok] at e
  subst e
  exact h
theorem recordsR_ok {l : List Nat} {s : Nat} {a b : Int} {out : List Rcd} (ok : JOk l s a b out) (hb : By l) :
    FC Try.prog 21 [.o (jV 0 l.length s a b)] [u8n l false] (.o (.c (.s 1 0 out.length 16))) [u8n l false, recs out true] := by
  have h16 := ok.hlen
  obtain ⟨r, h, e⟩ := recordsR_fc l s a b (by omega) hb
  rw [recs_ok ok] at e
  subst e
  exact h
theorem sinceJ_ok {l : List Nat} {s : Nat} {a b : Int} {out : List Rcd} (ok : JOk l s a b out) (hb : By l) (u : Int) (o : List Rcd) (ho : newer u out = o) :
    FC Try.prog 30 [.o (jV 0 l.length s a b), int .i64 u] [u8n l false] (.o (.c (.s 1 0 o.length 16))) [u8n l false, recs o true] := by
  have h16 := ok.hlen
  obtain ⟨r, h, e⟩ := sinceJ_fc l s a b u (by omega) hb
  rw [recs_ok ok, ho] at e
  subst e
  exact h
theorem validJ_ok {l : List Nat} {s : Nat} {a b : Int} {out : List Rcd} (ok : JOk l s a b out) (hb : By l) :
    FC Try.prog 19 [.o (jV 0 l.length s a b)] [u8n l false] (boo true) [u8n l false] := by
  have h16 := ok.hlen
  obtain ⟨r, h, e⟩ := validJ_fc l s a b (by omega) hb
  rw [read_ok ok] at e
  subst e
  exact h
def rB : Rcd := ⟨4, 0, 0, ⟨true, false, 2, 0, 0, 0, 0⟩, ⟨0, 0, 0, 0, 0, 0⟩⟩
theorem rB_ok : RcOk rB := ⟨fun j hj => by rcases lt6 hj with rfl | rfl | rfl | rfl | rfl | rfl <;> (simp only [Pl.get, rB]; omega), by simp only [rB]; omega, by simp only [rB]; omega, by simp only [rB]; omega, by constructor <;> rfl⟩
theorem by_nil : By [] := fun i => by simp
set_option maxHeartbeats 3200000 in
set_option maxRecDepth 10000 in
theorem awake20_fc : FC Try.prog 9 [] [] (boo true) [] := by
  refine FC.one (FC.rj mix Try.func9 ?_)
  repeat (first | refine And.intro (by kernel_rfl) ?_ | refine And.intro (by decide) ?_)
  refine acall.nilAt 0 0 1 (.ints .u8 []) ?_
  refine FC.u (openJ_ok jok_nil by_nil) [0] ?_
  repeat (first | refine And.intro (by kernel_rfl) ?_ | refine And.intro (by decide) ?_)
  refine FC.x (appJ_ok (r := rA) jok_nil by_nil rA_ok (by show (0 : Int) < 1; omega) (by show 0 + 53 ≤ 16384; omega)) [1] (fun l1 h1 => ?_)
  obtain ⟨ok1, n1, b1⟩ := h1
  repeat (first | refine And.intro (by kernel_rfl) ?_ | refine And.intro (by decide) ?_)
  refine FC.u (syncJ_ok ok1 b1) [4] ?_
  repeat (first | refine And.intro (by kernel_rfl) ?_ | refine And.intro (by decide) ?_)
  have ok2 := (sync_ok ok1).2
  have n1' : l1.length = 53 := n1
  refine FC.x (appJ_ok (r := rB) ok2 b1 rB_ok (by show (1 : Int) < 4; omega) (by omega)) [5] (fun l2 h2 => ?_)
  obtain ⟨ok3, n2, b2⟩ := h2
  repeat (first | refine And.intro (by kernel_rfl) ?_ | refine And.intro (by decide) ?_)
  refine FC.u (sinceJ_ok ok3 b2 1 [rB] rfl) [6] ?_
  repeat (first | refine And.intro (by kernel_rfl) ?_ | refine And.intro (by decide) ?_)
  refine FC.u (validJ_ok ok3 b2) [6] ?_
  repeat (first | refine And.intro (by kernel_rfl) ?_ | refine And.intro (by decide) ?_)
  exact ⟨(), trivial, .id rfl trivial⟩
end Go.Sx.T1
namespace Go.Sx.T1
open Go.Proofs Go.Sx.Crc
theorem row_n8 {w : World} {a : Option Addr} {len cap : Nat} {zs : List Int} (h : IsRowI .u8 w a len cap zs) (n : Nat) : ∃ ns : List Nat, zs.take n = zl ns ∧ By ns := by
  have hz : ∀ z ∈ zs, 0 ≤ z ∧ z ≤ 255 := by
    rcases h with ⟨_, _, _, rfl⟩ | ⟨_, _, _, _, _, _, hw⟩
    · intro z hz; cases hz
    · intro z hz
      have := hw z hz
      simpa [Lit.wf, IntKind.min, IntKind.max, IntKind.signed, IntKind.bits] using this
  refine ⟨(zs.take n).map Int.toNat, ?_, By.of_mem fun x hx => ?_⟩
  · have : ∀ l : List Int, (∀ z ∈ l, 0 ≤ z) → l = zl (l.map Int.toNat) := by
      intro l
      induction l with
      | nil => intro _; rfl
      | cons x l ih =>
        intro hl
        have hx := hl x (by simp)
        have hr := ih fun z hz => hl z (by simp [hz])
        unfold zl at hr ⊢
        simp only [List.map_cons]
        rw [← hr]
        congr 1
        exact (Int.toNat_of_nonneg hx).symm
    exact this _ fun z hz' => (hz z (List.mem_of_mem_take hz')).1
  · obtain ⟨z, hz', rfl⟩ := List.mem_map.1 hx
    have := hz z (List.mem_of_mem_take hz')
    omega
def iL (xs : List Int) : Option Blk := some ⟨.ints .u8 xs, false⟩
set_option maxHeartbeats 3200000 in
set_option maxRecDepth 10000 in
theorem law (r : Rcd) (xs : List Int) (sy a b u : Int) (hx : ∃ ns : List Nat, xs = zl ns ∧ By ns) :
    FC Try.prog 5 [.o (.a [.s 0 0 xs.length 1, .v (.int .i64 sy), .v (.int .i64 a), .v (.int .i64 b)]), .o (.a (rcC r)), int .i64 u] [iL xs] (boo true) [iL xs] := by
  obtain ⟨l, rfl, hb⟩ := hx
  rw [zl_len]
  refine FC.one (FC.rj mix Try.func5 ?_)
  repeat (first | refine And.intro (by kernel_rfl) ?_ | refine And.intro (by decide) ?_)
  refine FC.u awake20_fc [] ?_
  repeat (first | refine And.intro (by kernel_rfl) ?_ | refine And.intro (by decide) ?_)
  refine bselD (fun h => ?_) (fun h => ?_)
  · repeat (first | refine And.intro (by kernel_rfl) ?_ | refine And.intro (by decide) ?_)
    exact ⟨(), trivial, .id rfl ⟨.inl rfl, trivial⟩⟩
  · have hl : l.length ≤ 3000 := by
      have h2 : ¬ (l.length : Int) > 3000 := h
      clear h
      omega
    repeat (first | refine And.intro (by kernel_rfl) ?_ | refine And.intro (by decide) ?_)
    refine FC.u (agree20_fc l sy a b r u (by omega) hb) [0] ?_
    repeat (first | refine And.intro (by kernel_rfl) ?_ | refine And.intro (by decide) ?_)
    exact ⟨(), trivial, .id rfl ⟨.inl rfl, trivial⟩⟩
end Go.Sx.T1
