/- An abstract run of the program's code, part 3. Conditions: none. -/
import Derived.Test.YtkbadhiolahmnaaSxTwo
import Derived.Below
import Derived.ChangeArms
import Derived.OpenShut
import Derived.WideShapes
import Derived.SizedLaws
namespace Go.Sx
open Go.RowKit

def betL (l : List Nm) : Bet := fun n => l[n]?
/-- all names are for reading, and lie there -/
def roM (w : World) (β : Bet) : Mem → List Nm → Prop
  | [], [] => True
  | some k :: m, a :: l => (k.wr = false ∧ holds w β a k) ∧ roM w β m l
  | _, _ => False
theorem roM_length {w : World} {β : Bet} : ∀ {m : Mem} {l : List Nm}, roM w β m l → m.length = l.length
  | [], [], _ => rfl
  | some _ :: _, _ :: _, ⟨_, h⟩ => congrArg (· + 1) (roM_length h)
  | none :: _, _ :: _, h => h.elim
  | [], _ :: _, h => h.elim
  | some _ :: _, [], h => h.elim
  | none :: _, [], h => h.elim
theorem roM_get {w : World} {β : Bet} : ∀ {m : Mem} {l : List Nm} (n : Nat) (k : Blk), roM w β m l → m.get n = some k → k.wr = false ∧ ∃ a, l[n]? = some a ∧ holds w β a k
  | some k' :: m, a :: l, 0, k, ⟨h, _⟩, e => by simp only [Mem.get, Option.some.injEq] at e; subst e; exact ⟨h.1, a, rfl, h.2⟩
  | some k' :: m, a :: l, n + 1, k, ⟨_, h⟩, e => by simpa using roM_get (m := m) (l := l) n k h e
  | none :: _, _ :: _, _, _, h, _ => h.elim
  | [], _, _, _, _, e => by cases e
  | some _ :: _, [], _, _, h, _ => h.elim
  | none :: _, [], _, _, h, _ => h.elim

/-- THE LAW's CALL -/
theorem law_calls {P : Program} {g : FuncId} {args0 : List SV} {m0 m1 : Mem} (h : FC P g args0 m0 (boo true) m1) (l : List Nm) (w : World) (vals : List Value) (hm : roM w (betL l) m0 l) (hd : denLS (betL l) vals args0) :
    Calls P g vals.toArray w fun e w' => e = .returned (.bool true) ∧ Below w.heap.size w w' := by
  have hlen := roM_length hm
  have hno : ∀ b, ¬ wrA (betL l) m0 b := fun b ⟨n, k, m, hk, hwr, _⟩ => by
    have := (roM_get n k hm hk).1
    rw [this] at hwr; cases hwr
  have hSt : St w (wrA (betL l) m0) (betL l) m0 w := by
    refine ⟨rfl, rfl, rfl, Nat.le_refl _, fun _ _ _ => rfl, fun n k hk => ?_, fun n n' k k' m m' _ hk _ hwr => ?_, fun n k m hk hwr => ?_⟩
    · obtain ⟨_, a, ha, hh⟩ := roM_get n k hm hk
      exact ⟨a, ha, hh⟩
    · have := (roM_get n k hm hk).1
      rw [this] at hwr; cases hwr
    · have := (roM_get n k hm hk).1
      rw [this] at hwr; cases hwr
  refine (h.run (betL l) w vals (fun n hn => ?_) (fun n hn => ?_) hSt hd).mono fun e w' ⟨v', β', he, _, _, hS, hv⟩ => ?_
  · unfold betL; exact List.getElem?_eq_none (by omega)
  · unfold betL; rw [List.getElem?_eq_getElem (by omega)]; exact Option.some_ne_none _
  · have : v' = .bool true := hv
    subst this
    exact ⟨he, hS.os, hS.tape, hS.output, hS.size, fun k hk => hS.frame k hk (hno k)⟩

/-- a slice of numbers that came in -/
def IsRowI (k : IntKind) (w : World) (a : Option Addr) (len cap : Nat) (zs : List Int) : Prop :=
  (a = none ∧ len = 0 ∧ cap = 0 ∧ zs = []) ∨
  ∃ x, a = some x ∧ len ≤ cap ∧ cap ≤ maxLen ∧ zs.length = cap ∧ (∀ i, i < zs.length → w.cell? (x.add i) = some (.int k (zs.getD i 0))) ∧ ∀ n ∈ zs, (Lit.int k n).wf = true

theorem cell_in {w : World} {x : Addr} {v : Value} (h : w.cell? x = some v) : ∃ c T fz, w.heap[x.block]? = some (.cells c T fz) ∧ c[x.off]? = some v := by
  unfold World.cell? at h
  split at h
  · rename_i c T fz hb
    split at h
    · cases h
    · exact ⟨c, T, fz, hb, h⟩
  · cases h

/-- it has a name: what is read of it are its elements -/
theorem ints_name {k : IntKind} {w : World} {a : Option Addr} {len cap : Nat} {zs : List Int} (h : IsRowI k w a len cap zs) :
    ∃ m : Nm, ∀ β : Bet, holds w β m ⟨.ints k (zs.take len), false⟩ ∧ ∀ n, β n = some m → denC β (.slice a len cap) (.s n 0 (zs.take len).length 1) := by
  have dull : ∀ (a : Option Addr) (len cap : Nat), len = 0 → cap = 0 → ∃ m : Nm, ∀ β : Bet, holds w β m ⟨.ints k ([] : List Int), false⟩ ∧ ∀ n, β n = some m → denC β (.slice a len cap) (.s n 0 0 1) := by
    intro a len cap hl hc
    subst hl; subst hc
    exact ⟨⟨0, 0, 1, 0⟩, fun β => ⟨⟨.inr ⟨rfl, Nat.one_pos, fun i hi => rfl⟩, Nat.le_refl _, fun _ => .inl rfl, fun _ _ he => by cases he⟩, fun n hn => ⟨a, 0, _, hn, rfl, rfl, Nat.le_refl _, Nat.zero_le _, .inl rfl⟩⟩⟩
  rcases h with ⟨rfl, rfl, rfl, rfl⟩ | ⟨x, rfl, hl, hm, hz, hcell, _⟩
  · exact dull _ _ _ rfl rfl
  · by_cases h0 : cap = 0
    · subst h0
      obtain rfl : len = 0 := by omega
      obtain rfl : zs = [] := List.eq_nil_of_length_eq_zero hz
      exact dull _ _ _ rfl rfl
    · have hc0 := hcell 0 (by omega)
      have hs : x.spot = none := by simpa [Addr.add] using World.cell?_spot hc0
      obtain ⟨b, off, spot⟩ := x
      simp only at hs
      subst hs
      have hcell' : ∀ i, i < cap → w.cell? ⟨b, off + i, none⟩ = some (.int k (zs.getD i 0)) := by
        intro i hi
        have := hcell i (by omega)
        by_cases hi0 : i = 0
        · subst hi0; simpa [Addr.add] using this
        · simpa [Addr.add, hi0] using this
      obtain ⟨c, T, fz, hb, _⟩ := cell_in (hcell' 0 (by omega))
      have hin : ∀ i, i < cap → c[off + i]? = some (.int k (zs.getD i 0)) := by
        intro i hi
        obtain ⟨c', T', fz', hb', hv⟩ := cell_in (hcell' i hi)
        simp only at hb hb' hv
        rw [hb] at hb'; cases hb'
        exact hv
      have hlen : (zs.take len).length = len := by simp; omega
      refine ⟨⟨b, off, 1, cap⟩, fun β => ⟨⟨.inr ⟨rfl, Nat.one_pos, fun i hi => rfl⟩, ?_, fun _ => .inr ⟨c, T, fz, hb, ?_, (by intro h; cases h), ?_⟩, fun _ _ he => by cases he⟩, fun n hn => ?_⟩⟩
      · show (zs.take len).length * 1 ≤ cap
        omega
      · have := hin (cap - 1) (by omega)
        have : off + (cap - 1) < c.size := by
          rcases Nat.lt_or_ge (off + (cap - 1)) c.size with h | h
          · exact h
          · rw [Array.getElem?_eq_none h] at this; cases this
        show off + cap ≤ c.size
        omega
      · intro i j x hx
        rw [Bk.at_some] at hx
        obtain ⟨hi, hj⟩ := hx
        replace hi : i < (zs.take len).length := hi
        replace hj : [C.v (.int k ((zs.take len).getD i 0))][j]? = some x := hj
        obtain rfl : j = 0 := by
          cases j with
          | zero => rfl
          | succ j => simp at hj
        simp only [List.getElem?_cons_zero, Option.some.injEq] at hj
        subst hj
        refine ⟨_, show c[off + i * 1 + 0]? = _ by rw [Nat.mul_one, Nat.add_zero]; exact hin i (by omega), ?_⟩
        show Value.int k (zs.getD i 0) = Value.int k ((zs.take len).getD i 0)
        rw [List.getD, List.getD, List.getElem?_take_of_lt (by omega)]
      · rw [hlen]
        exact ⟨_, cap, _, hn, rfl, rfl, hl, hm, .inr ⟨by simp, by simp⟩⟩
end Go.Sx
namespace Go.Sx

inductive FK where
  | i (k : IntKind)
  | b
inductive Sh where
  | c (k : FK)
  | s (ks : List FK)

def fkOk : FK → Value → Prop
  | .i k, v => ∃ n, v = .int k n ∧ k.min ≤ n ∧ n ≤ k.max
  | .b, v => ∃ b, v = .bool b
def fksOk : List FK → List Value → Prop
  | [], vs => vs = []
  | k :: r, vs => ∃ v vs', vs = v :: vs' ∧ fkOk k v ∧ fksOk r vs'
theorem fksOk_len : ∀ {ks : List FK} {vs : List Value}, fksOk ks vs → vs.length = ks.length
  | [], vs, h => by have e : vs = [] := h; subst e; rfl
  | _ :: r, _, ⟨_, vs', e, _, h⟩ => by rw [e, List.length_cons, List.length_cons, fksOk_len h]
def IsRowsF (ks : List FK) (w : World) (a : Option Addr) (len cap : Nat) (rs : List (List Value)) : Prop :=
  (a = none ∧ len = 0 ∧ cap = 0 ∧ rs = []) ∨
  ∃ x, a = some x ∧ len ≤ cap ∧ cap ≤ maxLen ∧ rs.length = cap ∧ ∀ i r, rs[i]? = some r → fksOk ks r ∧ ∀ j v, r[j]? = some v → w.cell? (x.add (i * ks.length + j)) = some v
def shOk (w : World) : Sh → Value → Prop
  | .c k, v => fkOk k v
  | .s ks, v => ∃ a len cap rs, v = .slice a len cap ∧ IsRowsF ks w a len cap rs
def shsOk (w : World) : List Sh → List Value → Prop
  | [], vs => vs = []
  | k :: r, vs => ∃ v vs', vs = v :: vs' ∧ shOk w k v ∧ shsOk w r vs'
theorem shsOk_len {w : World} : ∀ {ks : List Sh} {vs : List Value}, shsOk w ks vs → vs.length = ks.length
  | [], vs, h => by have e : vs = [] := h; subst e; rfl
  | _ :: r, _, ⟨_, vs', e, _, h⟩ => by rw [e, List.length_cons, List.length_cons, shsOk_len h]
theorem shsOk_app {w : World} : ∀ {ks ls : List Sh} {vs us : List Value}, shsOk w ks vs → shsOk w ls us → shsOk w (ks ++ ls) (vs ++ us)
  | [], _, _, _, h, k => by rw [show _ = [] from h]; exact k
  | _ :: _, _, _, _, ⟨v, vs', e, h1, h2⟩, k => ⟨v, vs' ++ _, by rw [e]; rfl, h1, shsOk_app h2 k⟩

def flatOf : List Sh → Option (List FK)
  | [] => some []
  | .c k :: r => (match flatOf r with | some l => some (k :: l) | none => none)
  | .s _ :: _ => none
theorem flatOf_ok {w : World} : ∀ {l : List Sh} {ks : List FK} {vs : List Value}, flatOf l = some ks → shsOk w l vs → fksOk ks vs
  | [], ks, vs, h, k => by simp [flatOf] at h; subst h; exact k
  | .c k :: r, ks, vs, h, ⟨v, vs', e, h1, h2⟩ => by
    unfold flatOf at h
    split at h
    · rename_i l hl
      simp only [Option.some.injEq] at h
      subst h
      exact ⟨v, vs', e, h1, flatOf_ok hl h2⟩
    · cases h
  | .s _ :: _, _, _, h, _ => by simp [flatOf] at h
def rep (n : Nat) (l : List Sh) : List Sh := match n with | 0 => [] | n + 1 => l ++ rep n l
theorem rep_length (l : List Sh) : ∀ n, (rep n l).length = n * l.length
  | 0 => by simp [rep]
  | n + 1 => by rw [rep, List.length_append, rep_length l n, Nat.succ_mul, Nat.add_comm]
def shFs (f : TypeId → Option (List Sh)) (P : Program) : List Field → Nat → Option (List Sh)
  | [], _ => some []
  | fd :: r, off => if fd.offset = off then (match f fd.type with
    | some l => if l.length = P.cellsOf fd.type then (match shFs f P r (off + l.length) with
      | some m => some (l ++ m)
      | none => none) else none
    | none => none) else none
def shT (P : Program) : Nat → TypeId → Option (List Sh)
  | 0, _ => none
  | d + 1, t => match P.underlying t with
    | some .bool => some [.c .b]
    | some (.int k) => some [.c (.i k)]
    | some (.slice e) => (match shT P d e with
      | some l => (match flatOf l with
        | some ks => if ks.length = P.cellsOf e then some [.s ks] else none
        | none => none)
      | none => none)
    | some (.struct fs) => (match shFs (shT P d) P fs.toList 0 with
      | some l => if l.length = P.cellsOf t then some l else none
      | none => none)
    | some (.array n e) => (match shT P d e with
      | some l => if l.length = P.cellsOf e ∧ n * l.length = P.cellsOf t then some (rep n l) else none
      | none => none)
    | _ => none

theorem flatOf_length : ∀ {l : List Sh} {ks : List FK}, flatOf l = some ks → ks.length = l.length
  | [], ks, h => by simp [flatOf] at h; subst h; rfl
  | .c k :: r, ks, h => by
    unfold flatOf at h
    split at h
    · rename_i l hl
      simp only [Option.some.injEq] at h
      subst h
      rw [List.length_cons, List.length_cons, flatOf_length hl]
    · cases h
  | .s _ :: _, _, h => by simp [flatOf] at h

theorem Addr.add_two (a : Addr) (n m : Nat) : (a.add n).add m = a.add (n + m) := by
  unfold Addr.add
  by_cases hn : n = 0
  · subst hn; simp
  · by_cases hm : m = 0
    · subst hm; simp [hn]
    · simp [hn, hm, Nat.add_assoc]

section
variable {H : Type} {enc : TypeId × Value → H} {P : Program} {w : World} {base : Nat} {held : Bool}
theorem cells_get {a : Addr} {n : Nat} {cs : List Value} (h : w.cells? base a n = some cs) : cs.length = n ∧ ∀ j v, cs[j]? = some v → w.cell? (a.add j) = some v := by
  unfold World.cells? at h
  split at h
  · have hl := mapM_some_length h
    simp at hl
    refine ⟨hl, fun j v hj => ?_⟩
    have hlt : j < n := by have := (List.getElem?_eq_some_iff.1 hj).1; omega
    have := mapM_some_get h j j (by simp [hlt])
    rw [this]; exact hj
  · cases h
theorem sh_struct {f : TypeId → Option (List Sh)} {cs : List Value} (hf : ∀ t l off, f t = some l → l.length = P.cellsOf t → (∃ x fuel, DataW.trod enc P w base (fun _ => true) held fuel t ((cs.drop off).take (P.cellsOf t)) = some x) → shsOk w l ((cs.drop off).take (P.cellsOf t))) :
    ∀ (fs : List Field) (off : Nat) (l : List Sh), (∀ fd ∈ fs, ∃ x fuel, DataW.trod enc P w base (fun _ => true) held fuel fd.type ((cs.drop fd.offset).take (P.cellsOf fd.type)) = some x) → shFs f P fs off = some l → shsOk w l ((cs.drop off).take l.length)
  | [], off, l, _, h => by simp [shFs] at h; subst h; simp [shsOk]
  | fd :: r, off, l, hx, h => by
    unfold shFs at h
    split at h
    · rename_i ho
      subst ho
      split at h
      · rename_i l1 h1
        split at h
        · rename_i hl1
          split at h
          · rename_i m hm
            simp only [Option.some.injEq] at h
            subst h
            have a1 := hf fd.type l1 fd.offset h1 hl1 (hx fd (by simp))
            have a2 := sh_struct hf r _ m (fun fd' hfd => hx fd' (by simp [hfd])) hm
            rw [← hl1] at a1
            rw [List.length_append, List.take_add, List.drop_drop]
            exact shsOk_app a1 a2
          · cases h
        · cases h
      · cases h
    · cases h
theorem sh_array {l : List Sh} {sz : Nat} {cs : List Value} (hl : l.length = sz) : ∀ (n k : Nat), (∀ i, i < n → shsOk w l ((cs.drop ((k + i) * sz)).take sz)) → shsOk w (rep n l) ((cs.drop (k * sz)).take (n * sz))
  | 0, k, _ => by simp [rep, shsOk]
  | n + 1, k, h => by
    have a1 := h 0 (by omega)
    have a2 := sh_array hl n (k + 1) fun i hi => by have := h (i + 1) (by omega); rwa [show k + (i + 1) = k + 1 + i by omega] at this
    rw [rep, Nat.succ_mul, Nat.add_comm, List.take_add, List.drop_drop]
    rw [Nat.add_zero] at a1
    rw [show (k + 1) * sz = k * sz + sz by rw [Nat.succ_mul]] at a2
    exact shsOk_app a1 a2
theorem sh_open : ∀ (d fuel : Nat) (t : TypeId) (cs : List Value) (x : DataW H × List MemPlace) (l : List Sh), DataW.trod enc P w base (fun _ => true) held fuel t cs = some x → shT P d t = some l → shsOk w l cs := by
  intro d
  induction d with
  | zero => intro fuel t cs x l _ h; simp [shT] at h
  | succ d ih =>
    intro fuel t cs x l h hs
    unfold shT at hs
    split at hs
    · rename_i hu
      simp only [Option.some.injEq] at hs; subst hs
      obtain ⟨b, rfl, _⟩ := DataW.trod_bool hu h
      exact ⟨_, [], rfl, ⟨b, rfl⟩, rfl⟩
    · rename_i k hu
      simp only [Option.some.injEq] at hs; subst hs
      obtain ⟨n, rfl, _, hw⟩ := DataW.trod_int hu h
      simp only [Lit.wf, Bool.and_eq_true, decide_eq_true_eq] at hw
      exact ⟨_, [], rfl, ⟨n, rfl, hw.1, hw.2⟩, rfl⟩
    · rename_i e hu
      split at hs
      · rename_i l1 h1
        split at hs
        · rename_i ks hks
          split at hs
          · rename_i hlen
            simp only [Option.some.injEq] at hs; subst hs
            rcases DataW.trod_slice hu h with ⟨rfl, _⟩ | ⟨a, len, cap, elems, rest, m, _, rfl, _, hb, hle, hmax, hel, he, hr, _⟩
            · exact ⟨_, [], rfl, ⟨none, 0, 0, [], rfl, .inl ⟨rfl, rfl, rfl, rfl⟩⟩, rfl⟩
            · obtain ⟨hrl, hr⟩ := hr rfl
              have each : ∀ i, i < cap → ∃ c y, w.cells? base (a.add (i * P.cellsOf e)) (P.cellsOf e) = some c ∧ DataW.trod enc P w base (fun _ => true) held m e c = some y := by
                intro i hi
                by_cases hil : i < len
                · have hh := he i hil
                  rw [List.getElem?_eq_getElem (by omega)] at hh
                  rw [Option.bind_eq_some_iff] at hh
                  obtain ⟨c, h1, h2⟩ := hh
                  exact ⟨c, _, h1, h2⟩
                · have hh := hr (i - len) (by omega)
                  rw [show len + (i - len) = i by omega, List.getElem?_eq_getElem (by omega)] at hh
                  rw [Option.bind_eq_some_iff] at hh
                  obtain ⟨c, h1, h2⟩ := hh
                  exact ⟨c, _, h1, h2⟩
              refine ⟨_, [], rfl, ⟨some a, len, cap, (List.range cap).map fun i => (w.cells? base (a.add (i * P.cellsOf e)) (P.cellsOf e)).getD [], rfl, .inr ⟨a, rfl, hle, hmax, by simp, fun i r hi => ?_⟩⟩, rfl⟩
              have hic : i < cap := by have := (List.getElem?_eq_some_iff.1 hi).1; simpa using this
              obtain ⟨c, y, hc, hy⟩ := each i hic
              have : r = c := by
                rw [List.getElem?_map, List.getElem?_range hic] at hi
                simp only [Option.map_some, hc, Option.getD_some, Option.some.injEq] at hi
                exact hi.symm
              subst this
              refine ⟨flatOf_ok (w := w) hks (ih m e r y l1 hy h1), fun j v hj => ?_⟩
              have := (cells_get hc).2 j v hj
              rw [Addr.add_two] at this
              rw [hlen]; exact this
          · cases hs
        · cases hs
      · cases hs
    · rename_i fs hu
      split at hs
      · rename_i l1 h1
        split at hs
        · rename_i hlen
          simp only [Option.some.injEq] at hs; subst hs
          obtain ⟨xs, m, _, _, hcl, hxl, hx⟩ := DataW.trod_struct hu h
          have := sh_struct (enc := enc) (P := P) (w := w) (base := base) (held := held) (f := shT P d) (cs := cs) (fun t l off ht hl ⟨x, fuel, hx⟩ => ih fuel t _ x l hx ht) fs.toList 0 l1 (fun fd hfd => by
            obtain ⟨i, hi⟩ := List.getElem?_of_mem hfd
            have hi' : fs[i]? = some fd := by simpa using hi
            have hlt : i < xs.length := by rw [hxl]; have := (Array.getElem?_eq_some_iff.1 hi').1; exact this
            exact ⟨xs[i], m, by rw [hx i fd hi', List.getElem?_eq_getElem hlt]⟩) h1
          rw [List.drop_zero, hlen, ← hcl, List.take_length] at this
          exact this
        · cases hs
      · cases hs
    · rename_i n e hu
      split at hs
      · rename_i l1 h1
        split at hs
        · rename_i hlen
          simp only [Option.some.injEq] at hs; subst hs
          obtain ⟨xs, m, _, _, hcl, hxl, hx⟩ := DataW.trod_array hu h
          have := sh_array (w := w) (cs := cs) hlen.1 n 0 fun i hi => by
            rw [Nat.zero_add]
            have hh := hx i hi
            rw [List.getElem?_eq_getElem (by omega)] at hh
            exact ih m e _ _ l1 hh h1
          rw [Nat.zero_mul, List.drop_zero, ← hlen.1, hlen.2, ← hcl, List.take_length] at this
          exact this
        · cases hs
      · cases hs
    · cases hs
theorem open_agg {r : Reach} {b0 : Nat} {t : TypeId} {v : Value} {d : DataW H} {ps : List MemPlace} {l : List Sh} (hs : shT P 8 t = some l) (ha : isAggT P t = true) (hval : Value.okWide P w r b0 t v) (hd : DataW.Trod enc P w base (fun _ => true) held t v d ps) :
    ∃ vs : List Value, v = .agg vs.toArray ∧ shsOk w l vs := by
  obtain ⟨cs, rfl⟩ : ∃ cs, v = .agg cs := by
    unfold isAggT at ha
    unfold Value.okWide at hval
    split at ha
    · rename_i hu; rw [hu] at hval; obtain ⟨cs, e, _⟩ := hval; exact ⟨cs, e⟩
    · rename_i hu; rw [hu] at hval; obtain ⟨cs, e, _⟩ := hval; exact ⟨cs, e⟩
    · cases ha
  obtain ⟨fuel, hf⟩ := hd
  exact ⟨cs.toList, by simp, sh_open 8 fuel t _ _ l (by simpa [Value.cells] using hf) hs⟩
theorem open_rows {r : Reach} {b0 : Nat} {t e : TypeId} {v : Value} {d : DataW H} {ps : List MemPlace} {ks : List FK} (hs : shT P 8 t = some [.s ks]) (hu : P.underlying t = some (.slice e)) (hval : Value.okWide P w r b0 t v) (hd : DataW.Trod enc P w base (fun _ => true) held t v d ps) :
    ∃ a len cap rs, v = .slice a len cap ∧ IsRowsF ks w a len cap rs := by
  obtain ⟨a, len, cap, rfl⟩ := Go.WideShapes.okWide_slice hu hval
  obtain ⟨fuel, hf⟩ := hd
  obtain ⟨_, _, e1, ⟨a', len', cap', rs, e2, h⟩, _⟩ := sh_open 8 fuel t _ _ _ hf hs
  simp [Value.cells] at e1
  rw [← e1.1] at e2
  exact ⟨a', len', cap', rs, e2, h⟩
end

/-- the rows that came in have a name -/
theorem rows_name {α : Type} {ks : List FK} (hpos : 0 < ks.length) (E : α → List C) (Q : α → Prop) (d : α) (hE : ∀ r, fksOk ks r → ∃ a, r.map C.v = E a ∧ Q a) {w : World} {a : Option Addr} {len cap : Nat} {rs : List (List Value)} (h : IsRowsF ks w a len cap rs) :
    ∃ (xs : List α) (m : Nm), xs.length = len ∧ (∀ x ∈ xs, Q x) ∧ ∀ β : Bet, holds w β m ⟨.rows ks.length xs.length (fun i => E (xs.getD i d)), false⟩ ∧ ∀ n, β n = some m → denC β (.slice a len cap) (.s n 0 xs.length ks.length) := by
  have dull : ∀ (a : Option Addr), ∃ (xs : List α) (m : Nm), xs.length = 0 ∧ (∀ x ∈ xs, Q x) ∧ ∀ β : Bet, holds w β m ⟨.rows ks.length xs.length (fun i => E (xs.getD i d)), false⟩ ∧ ∀ n, β n = some m → denC β (.slice a 0 0) (.s n 0 xs.length ks.length) := by
    intro a
    exact ⟨[], ⟨0, 0, ks.length, 0⟩, rfl, by simp, fun β => ⟨⟨.inr ⟨rfl, hpos, fun i hi => absurd hi (Nat.not_lt_zero _)⟩, by simp [Bk.need, Bk.n], fun _ => .inl rfl, fun _ _ he => by cases he⟩, fun n hn => ⟨a, 0, _, hn, rfl, rfl, Nat.le_refl _, Nat.zero_le _, .inl rfl⟩⟩⟩
  rcases h with ⟨rfl, rfl, rfl, rfl⟩ | ⟨x, rfl, hl, hm, hz, hrow⟩
  · exact dull _
  · by_cases h0 : cap = 0
    · subst h0
      obtain rfl : len = 0 := by omega
      exact dull _
    · have typed : ∀ rs' : List (List Value), (∀ r ∈ rs', fksOk ks r) → ∃ xs : List α, xs.length = rs'.length ∧ (∀ x ∈ xs, Q x) ∧ ∀ i r, rs'[i]? = some r → r.map C.v = E (xs.getD i d) := by
        intro rs'
        induction rs' with
        | nil => intro _; exact ⟨[], rfl, by simp, by simp⟩
        | cons r rs' ih =>
          intro hr
          obtain ⟨xs, h1, h2, h3⟩ := ih fun r' hr' => hr r' (by simp [hr'])
          obtain ⟨y, hy, hQ⟩ := hE r (hr r (by simp))
          refine ⟨y :: xs, by simp [h1], by simpa using ⟨hQ, h2⟩, fun i r' hi => ?_⟩
          cases i with
          | zero => simp at hi; subst hi; simpa using hy
          | succ i => have := h3 i r' (by simpa using hi); simpa using this
      have hok : ∀ r ∈ rs, fksOk ks r := fun r hr => by obtain ⟨i, hi⟩ := List.getElem?_of_mem hr; exact (hrow i r hi).1
      obtain ⟨xs, hxl, hQ, hx⟩ := typed (rs.take len) fun r hr => hok r (List.mem_of_mem_take hr)
      have hxl' : xs.length = len := by rw [hxl, List.length_take]; omega
      obtain ⟨r0, hr0⟩ : ∃ r, rs[0]? = some r := ⟨rs[0], List.getElem?_eq_getElem (by omega)⟩
      have hl0 : r0.length = ks.length := fksOk_len (hrow 0 r0 hr0).1
      have hc0 := (hrow 0 r0 hr0).2 0 r0[0] (List.getElem?_eq_getElem (by omega))
      have hs : x.spot = none := by simpa [Addr.add] using World.cell?_spot hc0
      obtain ⟨b, off, spot⟩ := x
      simp only at hs
      subst hs
      have cellAt : ∀ i r j v, rs[i]? = some r → r[j]? = some v → w.cell? ⟨b, off + (i * ks.length + j), none⟩ = some v := by
        intro i r j v hi hj
        have := (hrow i r hi).2 j v hj
        by_cases h0 : i * ks.length + j = 0
        · rw [h0] at this ⊢; simpa [Addr.add] using this
        · unfold Addr.add at this; rw [if_neg h0] at this; exact this
      obtain ⟨c, T, fz, hb, _⟩ := cell_in (by simpa [Addr.add] using hc0)
      have hin : ∀ i r j v, rs[i]? = some r → r[j]? = some v → c[off + (i * ks.length + j)]? = some v := by
        intro i r j v hi hj
        obtain ⟨c', T', fz', hb', hc'⟩ := cell_in (cellAt i r j v hi hj)
        simp only at hb'
        rw [hb] at hb'
        simp only [Option.some.injEq, Obj.cells.injEq] at hb'
        obtain ⟨rfl, _, _⟩ := hb'
        exact hc'
      refine ⟨xs, ⟨b, off, ks.length, cap * ks.length⟩, hxl', hQ, fun β => ⟨⟨.inr ⟨rfl, hpos, fun i hi => ?_⟩, ?_, fun _ => .inr ⟨c, T, fz, hb, ?_, (fun h => by cases h), fun i j y hy => ?_⟩, fun _ _ he => by cases he⟩, fun n hn => ?_⟩⟩
      · simp only [Bk.row, Bk.sz]
        have hi' : i < len := by simpa [Bk.n, hxl'] using hi
        have hri : (rs.take len)[i]? = some rs[i] := by rw [List.getElem?_take_of_lt hi', List.getElem?_eq_getElem (by omega)]
        rw [← hx i _ hri, List.length_map]
        exact fksOk_len (hrow i _ (List.getElem?_eq_getElem (by omega))).1
      · simp only [Bk.need, Bk.n, Bk.sz, hxl']
        exact Nat.mul_le_mul_right _ hl
      · -- the last cell is there
        have hlast : rs[cap - 1]? = some rs[cap - 1] := List.getElem?_eq_getElem (by omega)
        have hll : (rs[cap - 1]).length = ks.length := fksOk_len (hrow _ _ hlast).1
        have := hin (cap - 1) _ (ks.length - 1) _ hlast (List.getElem?_eq_getElem (by omega))
        have hlt := (Array.getElem?_eq_some_iff.1 this).1
        have e : (cap - 1) * ks.length + (ks.length - 1) + 1 = cap * ks.length := by
          have : cap * ks.length = (cap - 1) * ks.length + ks.length := by
            conv => lhs; rw [show cap = (cap - 1) + 1 by omega, Nat.succ_mul]
          omega
        simp only
        omega
      · rw [Bk.at_some] at hy
        obtain ⟨hi, hj⟩ := hy
        have hi' : i < len := by simpa [Bk.n, hxl'] using hi
        have hri : (rs.take len)[i]? = some rs[i] := by rw [List.getElem?_take_of_lt hi', List.getElem?_eq_getElem (by omega)]
        simp only [Bk.row] at hj
        rw [← hx i _ hri, List.getElem?_map, Option.map_eq_some_iff] at hj
        obtain ⟨v, hv, rfl⟩ := hj
        exact ⟨v, by simp only; rw [Nat.add_assoc]; exact hin i _ j v (List.getElem?_eq_getElem (by omega)) hv, rfl⟩
      · refine ⟨some ⟨b, off, none⟩, cap, _, hn, by rw [hxl'], rfl, by omega, hm, .inr ⟨?_, ?_⟩⟩
        · simp
        · simp
/-- a slice of numbers -/
theorem IsRowsF.ints {k : IntKind} {w : World} {a : Option Addr} {len cap : Nat} {rs : List (List Value)} (h : IsRowsF [.i k] w a len cap rs) : ∃ zs : List Int, IsRowI k w a len cap zs := by
  rcases h with ⟨rfl, rfl, rfl, rfl⟩ | ⟨x, rfl, hl, hm, hz, hrow⟩
  · exact ⟨[], .inl ⟨rfl, rfl, rfl, rfl⟩⟩
  · refine ⟨rs.map fun r => match r with | [.int _ n] => n | _ => 0, .inr ⟨x, rfl, hl, hm, by simpa using hz, fun i hi => ?_, fun n hn => ?_⟩⟩
    · have hi' : i < rs.length := by simpa using hi
      obtain ⟨h1, h2⟩ := hrow i rs[i] (List.getElem?_eq_getElem hi')
      obtain ⟨v, vs', e, ⟨n, rfl, _⟩, e2⟩ := h1
      have e2' : vs' = [] := e2
      subst e2'
      have := h2 0 (.int k n) (by rw [e]; rfl)
      simp only [List.length_cons, List.length_nil, Nat.zero_add, Nat.mul_one, Nat.add_zero] at this
      rw [this, List.getD_eq_getElem?_getD, List.getElem?_map, List.getElem?_eq_getElem hi', e]
      rfl
    · rw [List.mem_map] at hn
      obtain ⟨r, hr, rfl⟩ := hn
      obtain ⟨i, hi⟩ := List.getElem?_of_mem hr
      obtain ⟨v, vs', e, ⟨n, rfl, h1, h2⟩, e2⟩ := (hrow i r hi).1
      have e2' : vs' = [] := e2
      subst e2' e
      simp [Lit.wf, h1, h2]
/-- the datum of a slice that came in has its length -/
theorem slice_datum {H : Type} {enc : TypeId × Value → H} {P : Program} {w : World} {base : Nat} {spare : Nat → Bool} {held : Bool} {t e : TypeId} {a : Option Addr} {len cap : Nat} {d : DataW H} {ps : List MemPlace}
    (hu : P.underlying t = some (.slice e)) (hd : DataW.Trod enc P w base spare held t (.slice a len cap) d ps) : (d = .nil ∧ len = 0) ∨ ∃ es sp, d = .slice es sp ∧ es.length = len := by
  obtain ⟨fuel, hf⟩ := hd
  rcases DataW.trod_slice hu hf with ⟨hc, hx⟩ | ⟨a', len', cap', elems, rest, n, _, hc, hx, _, _, _, hl, _⟩
  · simp [Value.cells] at hc
    simp only [Prod.mk.injEq] at hx
    exact .inl ⟨hx.1, hc.2.1⟩
  · simp [Value.cells] at hc
    simp only [Prod.mk.injEq] at hx
    exact .inr ⟨_, _, hx.1, by rw [List.length_map, hl, hc.2.1]⟩
end Go.Sx
