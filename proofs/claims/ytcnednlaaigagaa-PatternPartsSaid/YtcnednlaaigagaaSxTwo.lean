/- An abstract run of the program's code, part 2. Conditions: none. -/
import Derived.Test.YtcnednlaaigagaaSxOne
import Derived.WideKeyRuns
import Derived.Still
namespace Go.Sx

def flatSz (P : Program) (t : TypeId) (k : Nat) : Bool := match isAggT P t with | true => szT P t == k | false => k == 1
/-- how many numbers a type holds, and nothing else -/
def flatFs (fl : TypeId → Option Nat) (P : Program) : List Field → Nat → Option Nat
  | [], off => some off
  | f :: fs, off => match fl f.type with
    | some k => if f.name != "_" && okT P f.type && f.offset == off && flatSz P f.type k then flatFs fl P fs (off + k) else none
    | none => none
def flatT (P : Program) : Nat → TypeId → Option Nat
  | 0, _ => none
  | d + 1, t => match P.underlying t with
    | some (.int _) => some 1
    | some (.struct fs) => if P.stoodInHeld t then none else flatFs (flatT P d) P fs.toList 0
    | _ => none
def iv (agg : Bool) (l : List Int) : Value := match agg with
  | true => .agg (l.map (Value.int .i64)).toArray
  | false => .int .i64 (l.headD 0)

theorem part_flat {P : Program} {t : TypeId} {k off : Nat} {L : List Int} (ht : okT P t = true) (hk : flatSz P t k = true) (hl : off + k ≤ L.length) (w : World) :
    (part t (L.map (Value.int .i64)).toArray off).run P w = .ok (iv (isAggT P t) ((L.drop off).take k)) w := by
  cases ha : isAggT P t with
  | true =>
    simp only [flatSz, ha, beq_iff_eq] at hk
    subst hk
    simp only [part, run_isAgg ht, run_sizeOf ht, ha, iv, Sem.run_bind, Result.andThen_ok, if_true, Sem.run_pure]
    congr 2
    apply Array.ext'
    simp
  | false =>
    simp only [flatSz, ha, beq_iff_eq] at hk
    subst hk
    have hx : (L.map (Value.int .i64))[off]? = some (.int .i64 (L.getD off 0)) := by
      simp [List.getD, show off < L.length by omega]
    have hy : ((L.drop off).take 1).headD 0 = L.getD off 0 := by
      cases hd : L.drop off with
      | nil => have := congrArg List.length hd; simp at this; omega
      | cons a r =>
        have : L[off]? = some a := by rw [← List.head?_drop, hd]; rfl
        simp [List.getD, this]
    simp [part, run_isAgg ht, ha, iv, hx]
    simpa using hy.symm

theorem flatFs_le {fl : TypeId → Option Nat} {P : Program} : ∀ {fs : List Field} {off n : Nat}, flatFs fl P fs off = some n → off ≤ n
  | [], off, n, h => by simp [flatFs] at h; omega
  | f :: fs, off, n, h => by
    unfold flatFs at h
    split at h
    · split at h
      · have := flatFs_le h; omega
      · cases h
    · cases h

theorem flat_eqFields {P : Program} {fl : TypeId → Option Nat} {e : Nat}
    (hfl : ∀ t k l l', fl t = some k → l.length = k → l'.length = k → ∀ w, (Op.equalIn e t (iv (isAggT P t) l) (iv (isAggT P t) l')).run P w = .ok (decide (l = l')) w) :
    ∀ (fs : List Field) (off : Nat) (L L' : List Int), flatFs fl P fs off = some L.length → L'.length = L.length → ∀ w,
      (Op.eqFields e (L.map (Value.int .i64)).toArray (L'.map (Value.int .i64)).toArray fs).run P w = .ok (decide (L.drop off = L'.drop off)) w
  | [], off, L, L', h, hl, w => by
    simp only [flatFs, Option.some.injEq] at h
    subst h
    rw [List.drop_of_length_le (Nat.le_refl _), List.drop_of_length_le (by omega)]
    rfl
  | f :: fs, off, L, L', h, hl, w => by
    unfold flatFs at h
    split at h
    · rename_i k hk
      split at h
      · rename_i hc
        simp only [Bool.and_eq_true] at hc
        obtain ⟨⟨⟨hname, hok⟩, hoff⟩, hsz⟩ := hc
        have hoff' : f.offset = off := by simpa using hoff
        have hle := flatFs_le h
        have h1 := part_flat (L := L) hok hsz (off := off) (by omega) w
        have h2 := part_flat (L := L') hok hsz (off := off) (by omega) w
        have h3 := hfl f.type k ((L.drop off).take k) ((L'.drop off).take k) hk (by simp; omega) (by simp; omega) w
        have h4 := flat_eqFields hfl fs (off + k) L L' h hl w
        have hne : f.name ≠ "_" := by simpa using hname
        have hsplit : (L.drop off = L'.drop off) ↔ ((L.drop off).take k = (L'.drop off).take k ∧ L.drop (off + k) = L'.drop (off + k)) := by
          constructor
          · intro e
            exact ⟨by rw [e], by rw [← List.drop_drop, ← List.drop_drop, e]⟩
          · rintro ⟨e1, e2⟩
            rw [← List.take_append_drop k (L.drop off), ← List.take_append_drop k (L'.drop off), e1, List.drop_drop, List.drop_drop, e2]
        simp only [Op.eqFields, hne, ne_eq, not_false_eq_true, if_true, Sem.run_bind, hoff', h1, h2, h3, Result.andThen_ok]
        by_cases hd : (L.drop off).take k = (L'.drop off).take k
        · simp only [hd, decide_true, Bool.not_true, Bool.false_eq_true, if_false]
          rw [h4]
          congr 1
          rw [decide_eq_decide, hsplit]
          exact ⟨fun h => ⟨hd, h⟩, fun h => h.2⟩
        · have : ¬ (L.drop off = L'.drop off) := fun h => hd (hsplit.1 h).1
          simp [hd, this]
      · cases h
    · cases h

theorem flat_equalIn {P : Program} : ∀ (d : Nat) (t : TypeId) (n : Nat) (l l' : List Int) (e : Nat), d ≤ e → flatT P d t = some n → l.length = n → l'.length = n → ∀ w,
    (Op.equalIn e t (iv (isAggT P t) l) (iv (isAggT P t) l')).run P w = .ok (decide (l = l')) w
  | 0, _, _, _, _, _, _, h, _, _, _ => by cases h
  | d + 1, t, n, l, l', e, he, h, hl, hl', w => by
    obtain ⟨e, rfl⟩ : ∃ e', e = e' + 1 := ⟨e - 1, by omega⟩
    unfold flatT at h
    split at h
    · rename_i q hu
      cases h
      have ha : isAggT P t = false := by simp [isAggT, hu]
      obtain ⟨a, rfl⟩ := List.length_eq_one_iff.1 hl
      obtain ⟨b, rfl⟩ := List.length_eq_one_iff.1 hl'
      rw [ha]
      show (Op.equalIn (e + 1) t (.int .i64 a) (.int .i64 b)).run P w = _
      rw [run_equalIn_int w e t .i64 q a b hu]
      congr 1
      by_cases hab : a = b <;> simp [hab]
    · rename_i fs hu
      split at h
      · cases h
      · rename_i hst
        have ha : isAggT P t = true := by simp [isAggT, hu]
        have hf : P.fieldsOf t = fs := by simp [Program.fieldsOf, hu]
        rw [ha]
        show (Op.equalIn (e + 1) t (.agg _) (.agg _)).run P w = _
        rw [run_equalIn_struct w e t _ _ (by rw [hf]; exact hu) (by simpa using hst), hf]
        have := flat_eqFields (P := P) (e := e) (fl := flatT P d) (fun t k l l' h1 h2 h3 w => flat_equalIn d t k l l' e (by omega) h1 h2 h3 w) fs.toList 0 l l' (by rw [hl]; exact h) (by omega) w
        simpa using this
    · cases h

theorem flat_check {P : Program} {em : Bool} : ∀ (d : Nat) (t : TypeId) (n : Nat) (l : List Int) (e : Nat), d ≤ e → flatT P d t = some n → l.length = n → ∀ w,
    (Instr.checkKey em e t (iv (isAggT P t) l)).run P w = .ok () w
  | 0, _, _, _, _, _, h, _, _ => by cases h
  | d + 1, t, n, l, e, he, h, hl, w => by
    obtain ⟨e, rfl⟩ : ∃ e', e = e' + 1 := ⟨e - 1, by omega⟩
    unfold flatT at h
    split at h
    · rename_i q hu
      have ha : isAggT P t = false := by simp [isAggT, hu]
      rw [ha]
      simp [Instr.checkKey, run_underlying hu, iv]
    · rename_i fs hu
      split at h
      · cases h
      · rename_i hst
        have ha : isAggT P t = true := by simp [isAggT, hu]
        rw [ha]
        simp only [Instr.checkKey, Sem.run_bind, run_underlying hu, Result.andThen_ok, iv]
        rw [← Array.forIn_toList]
        have key : ∀ (gs : List Field) (off : Nat), flatFs (flatT P d) P gs off = some n →
            (forIn gs PUnit.unit fun f (_ : PUnit) => (do
              if f.name ≠ "_" then do Instr.checkKey em e f.type (← part f.type (l.map (Value.int .i64)).toArray f.offset); pure (ForInStep.yield PUnit.unit)
              else pure (ForInStep.yield PUnit.unit) : Sem (ForInStep PUnit))).run P w = .ok PUnit.unit w := by
          intro gs
          induction gs with
          | nil => intro off _; rfl
          | cons f gs ih =>
            intro off hg
            unfold flatFs at hg
            split at hg
            · rename_i k hk
              split at hg
              · rename_i hc
                simp only [Bool.and_eq_true] at hc
                obtain ⟨⟨⟨hname, hok⟩, hoff⟩, hsz⟩ := hc
                have hoff' : f.offset = off := by simpa using hoff
                have hle := flatFs_le hg
                have h1 := part_flat (L := l) hok hsz (off := off) (by omega) w
                have h2 := flat_check (em := em) d f.type k ((l.drop off).take k) e (by omega) hk (by simp; omega) w
                have hne : f.name ≠ "_" := by simpa using hname
                have h3 := ih _ hg
                rw [List.forIn_cons]
                simp only [hne, ne_eq, not_false_eq_true, if_true, Sem.run_bind, hoff', h1, h2, Result.andThen_ok, Sem.run_pure]
                exact h3
              · cases hg
            · cases hg
        have := key fs.toList 0 h
        rw [this]
        rfl
    · cases h

theorem isAgg_flat {P : Program} {t : TypeId} (h : isAggT P t = true) : (match P.underlying t with | some (.array _ _) | some (.struct _) => true | _ => false) = true := by
  unfold isAggT at h
  split at h <;> simp_all

/-- a key is looked for -/
theorem run_findKey_flat {P : Program} {kt : TypeId} {n : Nat} (ha : isAggT P kt = true) (hf : flatT P 8 kt = some n) {l : List Int} (hl : l.length = n) (w : World) : ∀ (E : List MapEntry) (es : List (List Int × Value)) (i : Nat), mapDen .many E es → (∀ p ∈ es, p.1.length = n) →
    (Instr.findAsking kt (.agg (l.map (Value.int .i64)).toArray) E i).run P w = .ok (mfind l es i) w
  | [], [], _, _, _ => rfl
  | e :: E, p :: es, i, ⟨⟨hk, hv⟩, r⟩, hlen => by
    have hk' : e.key = .agg (p.1.map (Value.int .i64)).toArray := hk
    have heq := flat_equalIn (P := P) 8 kt n l p.1 10000 (by omega) hf hl (hlen p (by simp)) w
    rw [ha] at heq
    have heq' : (Op.equal kt (.agg (l.map (Value.int .i64)).toArray) e.key).run P w = .ok (decide (l = p.1)) w := by rw [hk']; exact heq
    simp only [Instr.findAsking, Sem.run_bind, heq', Result.andThen_ok, mfind]
    by_cases h : p.1 = l
    · simp [h, hv]
    · have h' : ¬ l = p.1 := fun e => h e.symm
      simp only [h, h', decide_false, Bool.false_eq_true, if_false]
      exact run_findKey_flat ha hf hl w E es (i + 1) r fun q hq => hlen q (by simp [hq])

theorem sameBits_flat (l : List Int) : ∀ n, Instr.sameBits (n + 1) (.agg (l.map (Value.int .i64)).toArray) (.agg (l.map (Value.int .i64)).toArray) = true := by
  intro n
  simp only [Instr.sameBits, beq_self_eq_true, Bool.true_and, List.all_eq_true]
  intro p hp
  have : ∀ (xs : List Int) (p : Value × Value), p ∈ (xs.map (Value.int .i64)).zip (xs.map (Value.int .i64)) → ∃ a, p = (.int .i64 a, .int .i64 a) := by
    intro xs
    induction xs with
    | nil => intro p hp; simp at hp
    | cons x xs ih =>
      intro p hp
      simp only [List.map_cons, List.zip_cons_cons, List.mem_cons] at hp
      rcases hp with rfl | hp
      · exact ⟨x, rfl⟩
      · exact ih p hp
  obtain ⟨a, rfl⟩ := this l p hp
  exact sameBits_int .i64 a n

theorem run_mapUpd_flat {P : Program} {w : World} {t kt et : TypeId} {b n : Nat} {E : Array MapEntry} {clk : Nat} {es : List (List Int × Value)} (ht : P.underlying t = some (.map kt et)) (ha : isAggT P kt = true) (hf : flatT P 8 kt = some n)
    (hb : w.heap[b]? = some (.map E clk)) (hE : mapDen .many E.toList es) (hlen : ∀ p ∈ es, p.1.length = n) {l : List Int} (hl : l.length = n) (v : Value) :
    ∃ E' clk', (Instr.mapUpdate t (.map (some b)) (.agg (l.map (Value.int .i64)).toArray) v).run P w = .ok () { w with heap := w.heap.setIfInBounds b (.map E' clk') } ∧ mapDen .many E'.toList (mput es l v) := by
  have hx : keyDen .many (.agg (l.map (Value.int .i64)).toArray) l := by simp [keyDen]
  have hchk : (Instr.checkKey false 10000 kt (.agg (l.map (Value.int .i64)).toArray)).run P w = .ok () w := by
    have := flat_check (P := P) (em := false) 8 kt n l 10000 (by omega) hf hl w
    rw [ha] at this
    exact this
  have hfind : (Instr.findKey kt (.agg (l.map (Value.int .i64)).toArray) E.toList).run P w = .ok (mfind l es 0) w := by
    rw [run_findKey_eq w (isAgg_flat ha)]
    exact run_findKey_flat ha hf hl w E.toList es 0 hE hlen
  cases hm : mfind l es 0 with
  | none =>
    refine ⟨E.push ⟨.agg (l.map (Value.int .i64)).toArray, v, clk⟩, clk + 1, ?_, by rw [Array.toList_push]; exact mfind_none hx hE hm⟩
    rw [hm] at hfind
    simp only [Instr.mapUpdate, Sem.run_bind, run_underlying ht, Result.andThen_ok, MapKept.run_getObj_map hb, hchk, hfind, MapKept.run_setObj_map _ hb]
  | some r =>
    obtain ⟨j, v'⟩ := r
    obtain ⟨q', e, rfl, h2, h3, _, h5⟩ := mfind_some (v := v) hx hE hm
    rw [hm] at hfind
    have hj : E[0 + q']? = some e := by simpa using h2
    refine ⟨E.modify (0 + q') fun e => { e with key := .agg (l.map (Value.int .i64)).toArray, val := v }, clk, ?_, ?_⟩
    · have hkeep : (Instr.keyThatStays (.agg (l.map (Value.int .i64)).toArray) (.agg (l.map (Value.int .i64)).toArray)).run P w = .ok (.agg (l.map (Value.int .i64)).toArray) w := by
        unfold Instr.keyThatStays
        rw [if_pos (sameBits_flat l 9999)]
        rfl
      simp only [Instr.mapUpdate, Sem.run_bind, run_underlying ht, Result.andThen_ok, MapKept.run_getObj_map hb, hchk, hfind, hj, Option.map_some, Option.getD_some, h3, hkeep, MapKept.run_setObj_map _ hb]
    · rw [Array.toList_modify, Nat.zero_add, ChangeMaps.modify_eq_set _ _ _ _ h2]
      exact h5

theorem run_lookup_flat {P : Program} {w : World} {t kt et : TypeId} {b n : Nat} {E : Array MapEntry} {clk : Nat} {es : List (List Int × Value)} {z : Value} (ht : P.underlying t = some (.map kt et)) (ha : isAggT P kt = true) (hf : flatT P 8 kt = some n)
    (hb : w.heap[b]? = some (.map E clk)) (hE : mapDen .many E.toList es) (hlen : ∀ p ∈ es, p.1.length = n) {l : List Int} (hl : l.length = n) (hz : (zeroValue et).run P w = .ok z w) :
    (Instr.lookup t (.map (some b)) (.agg (l.map (Value.int .i64)).toArray) true).run P w = .ok (match mfind l es 0 with | some (_, v) => .tuple #[v, .bool true] | none => .tuple #[z, .bool false]) w := by
  have hchk : (Instr.checkKey E.isEmpty 10000 kt (.agg (l.map (Value.int .i64)).toArray)).run P w = .ok () w := by
    have := flat_check (P := P) (em := E.isEmpty) 8 kt n l 10000 (by omega) hf hl w
    rw [ha] at this
    exact this
  have hfind : (Instr.findKey kt (.agg (l.map (Value.int .i64)).toArray) E.toList).run P w = .ok (mfind l es 0) w := by
    rw [run_findKey_eq w (isAgg_flat ha)]
    exact run_findKey_flat ha hf hl w E.toList es 0 hE hlen
  cases hm : mfind l es 0 with
  | none =>
    rw [hm] at hfind
    simp [Instr.lookup, run_underlying ht, MapKept.run_getObj_map hb, hchk, hfind, hz]
  | some r =>
    obtain ⟨j, v⟩ := r
    rw [hm] at hfind
    simp [Instr.lookup, run_underlying ht, MapKept.run_getObj_map hb, hchk, hfind]

/-! ### the operations -/
/-- a key that is a struct of numbers -/
def keyInts : SV → Option (List Int)
  | .o (.a l) => (match intsOf l with | some (.i64, xs) => some xs | _ => none)
  | _ => none
theorem keyInts_den {β : Bet} {x : Value} {y : SV} {xs : List Int} (h : keyInts y = some xs) (hd : denS β x y) : x = .agg (xs.map (Value.int .i64)).toArray := by
  unfold keyInts at h
  split at h
  · split at h
    · rename_i l xs' hi
      cases h
      obtain ⟨vs, rfl, hvs⟩ := hd
      rw [intsOf_sound _ _ _ hi] at hvs
      congr 2
      have : ∀ (zs : List Int) (vs : List Value), denL β vs (zs.map fun n => C.v (.int .i64 n)) → vs = zs.map (Value.int .i64) := by
        intro zs
        induction zs with
        | nil => intro vs h; cases vs with | nil => rfl | cons => exact h.elim
        | cons z zs ih =>
          intro vs h
          cases vs with
          | nil => exact h.elim
          | cons v vs =>
            have h1 : v = .int .i64 z := h.1
            rw [h1, ih vs h.2]
            rfl
      exact this _ _ hvs
    · cases h
  · cases h

def evMapUpdK (P : Program) (t : TypeId) (m k x : SV) (rd : Mem) (K : Kt) (no : Prop) : Prop :=
  match m with
  | .o (.c (.m n)) => (match rd.get n with
    | some ⟨.map .many es, true⟩ => (match P.underlying t with
      | some (.map kt _) => (match keyInts k, x with
        | some xs, .o (.c (.v y)) => if isAggT P kt = true then flatT P 8 kt = some xs.length ∧ (∀ p ∈ es, p.1.length = xs.length) ∧ K (.t []) [(n, some ⟨.map .many (mput es xs y), true⟩)] else False
        | _, _ => False)
      | _ => False)
    | _ => no)
  | _ => no
theorem mapUpdK_sound {P : Program} {o : Oper} {fr : List SV} {rd : Mem} {t : TypeId} {m k x : Operand} (ho : o.op = .mapUpdate t m k x) {K : Kt} {no : Prop} (hno : no → ∃ v ups, SemOp P o fr rd v ups ∧ K v ups)
    (h : evMapUpdK P t (evO fr m) (evO fr k) (evO fr x) rd K no) : ∃ v ups, SemOp P o fr rd v ups ∧ K v ups := by
  unfold evMapUpdK at h
  split at h
  · rename_i n hm
    split at h
    · rename_i es hk
      split at h
      · rename_i kt et hu
        split at h
        · rename_i xs y hkk hx
          split at h
          · rename_i ha
            obtain ⟨hf, hlen, h⟩ := h
            have hl : xs.length = xs.length := rfl
            refine ⟨_, _, ?_, h⟩
            intro W A β M w ac next Q hSt hop hrd _ hn
            have h1 := hop m (by simp [ho, Op.operands])
            have h2 := hop k (by simp [ho, Op.operands])
            have h3 := hop x (by simp [ho, Op.operands])
            rw [hm] at h1
            rw [hx] at h3
            obtain ⟨mm, hmm, e1⟩ := h1
            have e2 := keyInts_den hkk h2
            have e3 : ac.eval x = y := h3
            have hM := hrd n _ hk
            obtain ⟨m', hm', hh⟩ := hSt.names n _ hM
            rw [hmm] at hm'; cases hm'
            obtain ⟨E, clk, hb, hE⟩ := hh.mth _ _ rfl
            obtain ⟨E', clk', hr, hE'⟩ := run_mapUpd_flat (P := P) hu ha hf hb hE hlen hl y
            refine wp_skip' (w' := { w with heap := w.heap.setIfInBounds mm.b (.map E' clk') }) ?_ ?_
            · simp only [execOp, ho, e1, e2, e3]
              simp [hr]
            · exact hn undef _ β (Bet.le_refl β) (fun q h1 h2 => absurd h1 h2) (hSt.setMap hM hmm (fun h => by cases h) hE') ⟨[], rfl, trivial⟩
          · exact h.elim
        · exact h.elim
      · exact h.elim
    · exact hno h
  · exact hno h

/-- the zero value of one cell -/
def zeroV (P : Program) (t : TypeId) : Option Value := match P.info? t with | some i => i.zero | none => none
theorem zeroV_sound {P : Program} {t : TypeId} {z : Value} (h : zeroV P t = some z) (w : World) : (zeroValue t).run P w = .ok z w := by
  unfold zeroV at h
  split at h
  · rename_i i hi
    simp [zeroValue, typeInfo, hi, h]
  · cases h

/-- found, or not -/
def lkSel (r : Option (Nat × Value)) (s : Value → Prop) (n : Prop) : Prop := match r with | some (_, v) => s v | none => n
theorem lkSel_intro {r : Option (Nat × Value)} {s : Value → Prop} {n : Prop} (hs : ∀ j v, r = some (j, v) → s v) (hn : r = none → n) : lkSel r s n := by
  cases r with
  | none => exact hn rfl
  | some p => obtain ⟨j, v⟩ := p; exact hs j v rfl
def evLookupK (P : Program) (t : TypeId) (m k : SV) (comma : Bool) (rd : Mem) (K : Kt) : Prop :=
  match m with
  | .o (.c (.m n)) => (match rd.get n with
    | some ⟨.map .many es, _⟩ => (match P.underlying t with
      | some (.map kt et) => (match keyInts k, zeroV P et, comma with
        | some xs, some z, true => if isAggT P kt = true ∧ isAggT P et = false then flatT P 8 kt = some xs.length ∧ (∀ p ∈ es, p.1.length = xs.length) ∧ lkSel (mfind xs es 0) (fun v => K (.t [.c (.v v), .c (.v (.bool true))]) []) (K (.t [.c (.v z), .c (.v (.bool false))]) []) else False
        | _, _, _ => False)
      | _ => False)
    | _ => False)
  | _ => False
theorem lookupK_sound {P : Program} {o : Oper} {fr : List SV} {rd : Mem} {t : TypeId} {m k : Operand} {comma : Bool} (ho : o.op = .lookup t m k comma) {K : Kt}
    (h : evLookupK P t (evO fr m) (evO fr k) comma rd K) : ∃ v ups, SemOp P o fr rd v ups ∧ K v ups := by
  unfold evLookupK at h
  split at h
  · rename_i n hm
    split at h
    · rename_i es wr hk
      split at h
      · rename_i kt et hu
        split at h
        · rename_i xs z hkk hz
          split at h
          · rename_i ha
            obtain ⟨ha, hae⟩ := ha
            obtain ⟨hf, hlen, h⟩ := h
            have hl : xs.length = xs.length := rfl
            have main : ∀ (v : Value) (b : Bool), (match mfind xs es 0 with | some (_, v) => Value.tuple #[v, .bool true] | none => .tuple #[z, .bool false]) = .tuple #[v, .bool b] → SemOp P o fr rd (.t [.c (.v v), .c (.v (.bool b))]) [] := by
              intro v b hv W A β M w ac next Q hSt hop hrd _ hn
              have h1 := hop m (by simp [ho, Op.operands])
              have h2 := hop k (by simp [ho, Op.operands])
              rw [hm] at h1
              obtain ⟨mm, hmm, e1⟩ := h1
              have e2 := keyInts_den hkk h2
              have hM := hrd n _ hk
              obtain ⟨m', hm', hh⟩ := hSt.names n _ hM
              rw [hmm] at hm'; cases hm'
              obtain ⟨E, clk, hb, hE⟩ := hh.mth _ _ rfl
              have hzv := zeroV_sound hz
              have hr := run_lookup_flat (P := P) hu ha hf hb hE hlen hl (hzv w)
              rw [hv] at hr
              refine wp_value (w' := w) (v := .tuple #[v, .bool b]) ?_ (hn _ _ β (Bet.le_refl β) (fun q h1 h2 => absurd h1 h2) hSt ⟨[v, .bool b], rfl, rfl, rfl, trivial⟩)
              simp only [execOp, ho, e1, e2]
              simp [hr]
            unfold lkSel at h
            split at h
            · rename_i j v hf'
              exact ⟨_, _, main v true (by rw [hf']), h⟩
            · rename_i hf'
              exact ⟨_, _, main z false (by rw [hf']), h⟩
          · exact h.elim
        · exact h.elim
      · exact h.elim
    · exact h.elim
  · exact h.elim
end Go.Sx
namespace Go.Sx

/-! ### load -/
def evLoadD (P : Program) (t : TypeId) (x : SV) (M : Mem) (nm : Nat) (K : Kt) (no : Prop) : Prop :=
  match x with
  | .o (.c (.p n i j)) => (match M.get n with
    | some ⟨.deep lo rs ov, wr⟩ => (match ov, j with
      | none, 0 => if okT P t = true ∧ isAggT P t = false then (lo ≤ i ∧ i < rs.length) ∧ (match wr with
          | true => K (.o (.c (.s nm 0 (rs.getD i []).length 1))) [(n, some ⟨.deep lo rs (some (i, .s nm 0 (rs.getD i []).length 1)), true⟩), (nm, some ⟨.ints .i64 (rs.getD i []), true⟩)]
          | false => K (.o (.c (.s nm 0 (rs.getD i []).length 1))) [(nm, some ⟨.ints .i64 (rs.getD i []), false⟩)]) else False
      | _, _ => False)
    | _ => no)
  | _ => no

/-- the list of a row, by a name -/
theorem own_name {w : World} {wr : Bool} {y : Value} {xs : List Int} (h : ownAt w wr y xs) :
    ∃ mm : Nm, (∀ β, holds w β mm ⟨.ints .i64 xs, wr⟩) ∧ (∀ β n, β n = some mm → denC β y (.s n 0 xs.length 1)) ∧ (mm.room ≠ 0 → ∃ o len cap, y = .slice (some ⟨mm.b, o, none⟩) len cap ∧ cap ≠ 0) := by
  obtain ⟨A, cap, e1, e2, e3, e4⟩ := h
  by_cases hc : cap = 0
  · have hx : xs = [] := List.eq_nil_of_length_eq_zero (by omega)
    subst hx
    refine ⟨⟨0, 0, 1, 0⟩, fun β => ⟨.inr ⟨rfl, Nat.one_pos, fun i hi => rfl⟩, Nat.le_refl _, fun _ => .inl rfl, fun _ _ he => (by cases he), fun _ _ _ he => (by cases he)⟩, fun β n hn => ⟨A, cap, _, hn, e1, rfl, Nat.zero_le _, e3, .inl hc⟩, fun h => absurd rfl h⟩
  · rcases e4 with e4 | ⟨_, b, o, c, T, fz, f1, f2, f3, f4, f5⟩
    · exact absurd e4 hc
    · refine ⟨⟨b, o, 1, cap⟩, fun β => ⟨.inr ⟨rfl, Nat.one_pos, fun i hi => rfl⟩, by show xs.length * 1 ≤ cap; omega, fun _ => .inr ⟨c, T, fz, f2, f3, f4, fun i j x hx => ?_⟩, fun _ _ he => (by cases he), fun _ _ _ he => (by cases he)⟩, fun β n hn => ⟨A, cap, _, hn, e1, rfl, e2, e3, .inr ⟨by rw [f1]; simp, by simp⟩⟩, fun _ => ⟨o, _, cap, by rw [e1, f1], hc⟩⟩
      rw [Bk.at_some] at hx
      obtain ⟨hi, hj⟩ := hx
      replace hi : i < xs.length := hi
      replace hj : [C.v (.int .i64 (xs.getD i 0))][j]? = some x := hj
      obtain rfl : j = 0 := by
        cases j with
        | zero => rfl
        | succ j => simp at hj
      simp only [List.getElem?_cons_zero, Option.some.injEq] at hj
      subst hj
      exact ⟨_, by show c[o + i * 1 + 0]? = _; rw [Nat.mul_one, Nat.add_zero]; exact f5 i hi, rfl⟩

theorem isOwn_getD {lo : Nat} {rs : List (List Int)} {i : Nat} (h : lo ≤ i) (hi : i < rs.length) : isOwn lo rs none i (rs.getD i []) :=
  ⟨⟨h, by simp [List.getD, hi]⟩, fun _ e => by cases e⟩
theorem isOwn_out {lo : Nat} {rs : List (List Int)} {i : Nat} {c : C} {q : Nat} {xs : List Int} (h : isOwn lo rs (some (i, c)) q xs) : isOwn lo rs none q xs ∧ q ≠ i :=
  ⟨⟨h.1, fun _ e => by cases e⟩, fun e => h.2 c (by rw [e])⟩
theorem rowB_out {w : World} {m : Nm} {lo : Nat} {rs : List (List Int)} {i : Nat} {c : C} {q b : Nat} (h : rowB w m lo rs (some (i, c)) q b) : rowB w m lo rs none q b ∧ q ≠ i := by
  obtain ⟨⟨xs, hx⟩, r⟩ := h
  exact ⟨⟨⟨xs, (isOwn_out hx).1⟩, r⟩, (isOwn_out hx).2⟩

theorem loadD_sound {P : Program} {o : Oper} {fr : List SV} {rd : Mem} {nm : Nat} (hnm : rd.get nm = none) {t : TypeId} {x : Operand} (ho : o.op = .load t x) {K : Kt} {no : Prop}
    (hno : no → ∃ v ups, SemOp P o fr rd v ups ∧ K v ups) (h : evLoadD P t (evO fr x) rd nm K no) : ∃ v ups, SemOp P o fr rd v ups ∧ K v ups := by
  unfold evLoadD at h
  split at h
  · rename_i n i j hx
    split at h
    · rename_i lo rs ov wr hk
      split at h
      · split at h
        · rename_i hc
          obtain ⟨ht, ha⟩ := hc
          obtain ⟨⟨hlo, hi⟩, h⟩ := h
          have hne : n ≠ nm := fun e => by rw [e, hnm] at hk; cases hk
          -- the value that is read
          have read : ∀ (W : World) (A : Nat → Prop) (β : Bet) (M : Mem) (w : World) (a : Act), St W A β M w → M.get n = some ⟨.deep lo rs none, wr⟩ → (∀ x ∈ o.op.operands, denS β (a.eval x) (evO fr x)) →
              ∃ m y c T fz, β n = some m ∧ holds w β m ⟨.deep lo rs none, wr⟩ ∧ (execOp a.eval o).run P w = .ok (.value y) w ∧ ownAt w wr y (rs.getD i []) ∧ w.heap[m.b]? = some (.cells c T fz) ∧ c[m.o + i]? = some y := by
            intro W A β M w a hSt hM hop
            obtain ⟨m, hm, hh⟩ := hSt.names n _ hM
            have hd := hh.dth lo rs none rfl
            have hsz := hd.sz (fun e => by rw [e] at hi; exact absurd hi (Nat.not_lt_zero _))
            rcases hd.there with ⟨_, h0⟩ | ⟨c, T, fz, h1, h2, h3, h4, _⟩
            · rw [h0] at hi; exact absurd hi (Nat.not_lt_zero _)
            obtain ⟨y, hy, hown⟩ := h4 i _ (isOwn_getD hlo hi)
            have hxd := hop x (by simp [ho, Op.operands])
            rw [hx] at hxd
            obtain ⟨m', hm', hpe⟩ := hxd
            rw [hm] at hm'; cases hm'
            rw [hsz, Nat.mul_one, Nat.add_zero] at hpe
            refine ⟨m, y, c, T, fz, hm, hh, ?_, hown, h1, hy⟩
            have hcell : w.cell? ⟨m.b, m.o + i, none⟩ = some y := by simp [World.cell?, h1, hy]
            simp only [execOp, ho, hpe]
            simp [Instr.loadAt, Instr.sureAddr, loadVar, run_isAgg ht, ha, run_load, hcell]
          split at h
          · refine ⟨_, _, ?_, h⟩
            intro W A β M w a next Q hSt hop hrd hfresh hn
            have hM := hrd n _ hk
            obtain ⟨m, y, c, T, fz, hm, hh, hr, hown, h1, hy⟩ := read W A β M w a hSt hM hop
            have hd := hh.dth lo rs none rfl
            obtain ⟨mm, k1, k2, k3⟩ := own_name hown
            obtain ⟨hβ, _⟩ := hfresh nm (by simp [Ups.has]) hnm
            have hle := Bet.set_le (m := mm) hβ
            have hget : ∀ q kq, (M.app [(n, some ⟨.deep lo rs (some (i, .s nm 0 (rs.getD i []).length 1)), true⟩), (nm, some ⟨.ints .i64 (rs.getD i []), true⟩)]).get q = some kq →
                (q = nm ∧ kq = ⟨.ints .i64 (rs.getD i []), true⟩) ∨ (q = n ∧ kq = ⟨.deep lo rs (some (i, .s nm 0 (rs.getD i []).length 1)), true⟩) ∨ (q ≠ n ∧ q ≠ nm ∧ M.get q = some kq) := by
              intro q kq hq
              simp only [Mem.app, Mem.get_put] at hq
              split at hq
              · exact .inl ⟨by assumption, by cases hq; rfl⟩
              · split at hq
                · exact .inr (.inl ⟨by assumption, by cases hq; rfl⟩)
                · exact .inr (.inr ⟨by assumption, by assumption, hq⟩)
            have hrow : ∀ b, ownB w mm (.ints .i64 (rs.getD i [])) b → rowB w m lo rs none i b := fun b hb => by
              obtain ⟨hr0, rfl⟩ := hb.plain rfl
              obtain ⟨oo, len, cap, e, hcap⟩ := k3 hr0
              exact ⟨⟨_, isOwn_getD hlo hi⟩, c, T, fz, oo, len, cap, h1, by rw [hy, e], hcap⟩
            have hnew : ∀ b, ownB w m (.deep lo rs (some (i, .s nm 0 (rs.getD i []).length 1))) b → ownB w m (.deep lo rs none) b ∧ ¬ rowB w m lo rs none i b := fun b hb => by
              rcases hb with ⟨h0, rfl⟩ | ⟨lo', rs', ov', q, e, hb⟩
              · exact ⟨.inl ⟨h0, rfl⟩, fun h => (hd.dist i _ h).1 rfl⟩
              · cases e
                obtain ⟨g1, g2⟩ := rowB_out hb
                exact ⟨.inr ⟨lo, rs, none, q, rfl, g1⟩, fun h => g2 ((hd.dist i b h).2 q g1)⟩
            refine wp_value hr (hn y w (β.set nm mm) hle (fun q g1 g2 => by have := Bet.set_dom g1 g2; subst this; simp [Ups.has]) ?_ (k2 _ nm (Bet.set_same _ _ _)))
            refine hSt.change rfl rfl rfl (Nat.le_refl _) hle (fun q => q = n ∨ q = nm) (fun q kq hq hN => ?_) (fun q kq hq hN => ?_) (fun b _ => .inl rfl) (fun q kq m' b hq hN hm' hb => ?_) (fun q q' kq kq' m1 m2 hqq h1 h2 hq hq' hw hm1 hm2 b hb hb' => ?_)
            · rcases hget q kq hq with ⟨e, _⟩ | ⟨e, _⟩ | ⟨_, _, h⟩
              · exact absurd (.inr e) hN
              · exact absurd (.inl e) hN
              · exact h
            · rcases hget q kq hq with ⟨rfl, rfl⟩ | ⟨rfl, rfl⟩ | ⟨e1, e2, _⟩
              · exact ⟨mm, Bet.set_same _ _ _, k1 _⟩
              · refine ⟨m, hle q m hm, .inl rfl, ?_, (fun h => by cases h), fun _ _ he => (by cases he), fun lo' rs' ov' he => ?_⟩
                · have := hd.len
                  show max rs.length (i + 1) ≤ m.room
                  omega
                · cases he
                  refine ⟨hd.sz, hd.len, fun j c' e => (by cases e; exact hi), .inr ?_, fun q b hb => ?_⟩
                  · rcases hd.there with ⟨_, h0⟩ | ⟨c', T', fz', g1, g2, g3, g4, _⟩
                    · rw [h0] at hi; exact absurd hi (Nat.not_lt_zero _)
                    · refine ⟨c', T', fz', g1, g2, g3, fun q xs hx => g4 q xs (isOwn_out hx).1, fun j x e => ?_⟩
                      cases e
                      rw [h1] at g1; cases g1
                      exact ⟨y, hy, k2 _ nm (Bet.set_same _ _ _)⟩
                  · obtain ⟨g1, _⟩ := rowB_out hb
                    exact ⟨(hd.dist q b g1).1, fun j hj => (hd.dist q b g1).2 j (rowB_out hj).1⟩
              · rcases hN with e | e
                · exact absurd e e1
                · exact absurd e e2
            · refine .inr ⟨n, _, m, hM, hm, ?_, .inl ⟨.inl (.inl rfl), fun _ => rfl⟩⟩
              rcases hget q kq hq with ⟨rfl, rfl⟩ | ⟨rfl, rfl⟩ | ⟨e1, e2, _⟩
              · rw [Bet.set_same] at hm'; cases hm'
                exact .inr ⟨lo, rs, none, i, rfl, hrow b hb⟩
              · rw [hle q m hm] at hm'; cases hm'
                exact (hnew b hb).1
              · rcases hN with e | e
                · exact absurd e e1
                · exact absurd e e2
            · have two : ∀ b, ownB w mm (.ints .i64 (rs.getD i [])) b → ¬ ownB w m (.deep lo rs (some (i, .s nm 0 (rs.getD i []).length 1))) b := fun b hb hb' => (hnew b hb').2 (hrow b hb)
              rcases hget q kq hq with ⟨rfl, rfl⟩ | ⟨rfl, rfl⟩ | ⟨e1, e2, _⟩
              · rw [Bet.set_same] at hm1; cases hm1
                rcases hget q' kq' hq' with ⟨rfl, rfl⟩ | ⟨rfl, rfl⟩ | ⟨e1, e2, _⟩
                · exact hqq rfl
                · rw [hle q' m hm] at hm2; cases hm2
                  exact two b hb hb'
                · rcases h2 with e | e
                  · exact absurd e e1
                  · exact absurd e e2
              · rw [hle q m hm] at hm1; cases hm1
                rcases hget q' kq' hq' with ⟨rfl, rfl⟩ | ⟨rfl, rfl⟩ | ⟨e1, e2, _⟩
                · rw [Bet.set_same] at hm2; cases hm2
                  exact two b hb' hb
                · exact hqq rfl
                · rcases h2 with e | e
                  · exact absurd e e1
                  · exact absurd e e2
              · rcases h1 with e | e
                · exact absurd e e1
                · exact absurd e e2
          · refine ⟨_, _, ?_, h⟩
            intro W A β M w a next Q hSt hop hrd hfresh hn
            have hM := hrd n _ hk
            obtain ⟨m, y, c, T, fz, hm, hh, hr, hown, h1, hy⟩ := read W A β M w a hSt hM hop
            obtain ⟨mm, k1, k2, k3⟩ := own_name hown
            obtain ⟨hβ, _⟩ := hfresh nm (by simp [Ups.has]) hnm
            have hle := Bet.set_le (m := mm) hβ
            refine wp_value hr (hn y w (β.set nm mm) hle (fun q g1 g2 => by have := Bet.set_dom g1 g2; subst this; simp [Ups.has]) ?_ (k2 _ nm (Bet.set_same _ _ _)))
            rw [Mem.app_one]
            refine hSt.change rfl rfl rfl (Nat.le_refl _) hle (· = nm) (fun q kq hq hN => ?_) (fun q kq hq hN => ?_) (fun b _ => .inl rfl) (fun q kq m' b hq hN hm' hb => ?_) (fun q q' kq kq' m1 m2 hqq h1 h2 => absurd (h1.trans h2.symm) hqq)
            · rw [Mem.get_put, if_neg hN] at hq; exact hq
            · subst hN
              rw [Mem.get_put, if_pos rfl] at hq
              cases hq
              exact ⟨mm, Bet.set_same _ _ _, k1 _⟩
            · subst hN
              rw [Mem.get_put, if_pos rfl] at hq
              cases hq
              rw [Bet.set_same] at hm'; cases hm'
              obtain ⟨hr0, rfl⟩ := hb.plain rfl
              obtain ⟨oo, len, cap, e, hcap⟩ := k3 hr0
              exact .inr ⟨n, _, m, hM, hm, .inr ⟨lo, rs, none, i, rfl, ⟨_, isOwn_getD hlo hi⟩, c, T, fz, oo, len, cap, h1, by rw [hy, e], hcap⟩, .inr ⟨rfl, rfl⟩⟩
        · exact h.elim
      · exact h.elim
    · exact hno h
  · exact hno h
end Go.Sx
namespace Go.Sx

def ovOk (ov : Option (Nat × C)) (i : Nat) : Prop := match ov with | none => True | some (j, _) => j = i
def evStoreD (P : Program) (t : TypeId) (p x : SV) (M : Mem) (K : Kt) (no : Prop) : Prop :=
  match p with
  | .o (.c (.p n i j)) => (match M.get n with
    | some ⟨.deep lo rs ov, wr⟩ => (match x, j with
      | .o (.c c), 0 => if okT P t = true ∧ wr = true ∧ szT P t = 1 ∧ c.ok = true then (i < rs.length ∧ ovOk ov i) ∧ K (.t []) [(n, some ⟨.deep lo rs (some (i, c)), true⟩)] else False
      | _, _ => False)
    | _ => no)
  | _ => no
theorem isOwn_ov {lo : Nat} {rs : List (List Int)} {ov : Option (Nat × C)} {i : Nat} (h : ovOk ov i) {c : C} {q : Nat} {xs : List Int} (hx : isOwn lo rs (some (i, c)) q xs) : isOwn lo rs ov q xs ∧ q ≠ i := by
  have hq : q ≠ i := fun e => hx.2 c (by rw [e])
  refine ⟨⟨hx.1, fun c' e => ?_⟩, hq⟩
  subst e
  exact hq h
theorem rowB_ov {w : World} {m : Nm} {lo : Nat} {rs : List (List Int)} {ov : Option (Nat × C)} {i : Nat} (h : ovOk ov i) {c : C} {q b : Nat} (hb : rowB w m lo rs (some (i, c)) q b) : rowB w m lo rs ov q b ∧ q ≠ i := by
  obtain ⟨⟨xs, hx⟩, r⟩ := hb
  exact ⟨⟨⟨xs, (isOwn_ov h hx).1⟩, r⟩, (isOwn_ov h hx).2⟩

theorem storeD_sound {P : Program} {o : Oper} {fr : List SV} {rd : Mem} {t : TypeId} {p x : Operand} (ho : o.op = .store t p x) {K : Kt} {no : Prop}
    (hno : no → ∃ v ups, SemOp P o fr rd v ups ∧ K v ups) (h : evStoreD P t (evO fr p) (evO fr x) rd K no) : ∃ v ups, SemOp P o fr rd v ups ∧ K v ups := by
  unfold evStoreD at h
  split at h
  · rename_i n i j hp
    split at h
    · rename_i lo rs ov wr hk
      split at h
      · rename_i c hx
        split at h
        · rename_i hc
          obtain ⟨ht, rfl, hsz1, hok⟩ := hc
          obtain ⟨⟨hi, hov⟩, h⟩ := h
          refine ⟨_, _, ?_, h⟩
          intro W A β M w a next Q hSt hop hrd _ hn
          have hM := hrd n _ hk
          obtain ⟨m, hm, hh⟩ := hSt.names n _ hM
          have hd := hh.dth lo rs ov rfl
          have hsz := hd.sz (fun e => by rw [e] at hi; exact absurd hi (Nat.not_lt_zero _))
          rcases hd.there with ⟨_, h0⟩ | ⟨cs, T, fz, h1, h2, h3, h4, h5⟩
          · rw [h0] at hi; exact absurd hi (Nat.not_lt_zero _)
          have hlen := hd.len
          have hroom : m.room ≠ 0 := by omega
          have hz := h3 rfl
          subst hz
          have hpd := hop p (by simp [ho, Op.operands])
          have hxd := hop x (by simp [ho, Op.operands])
          rw [hp] at hpd
          rw [hx] at hxd
          obtain ⟨m', hm', hpe⟩ := hpd
          rw [hm] at hm'; cases hm'
          rw [hsz, Nat.mul_one, Nat.add_zero] at hpe
          have hone : (a.eval x).oneCell' = true := denC.ok hxd hok
          have hcells := cells_of_one hone
          have hr := run_storeVar (P := P) ht (v := a.eval x) (by rw [hcells, hsz1]; rfl) (by rw [hcells]; simpa using hone) h1 (o := m.o + i) (by omega)
          rw [hcells, hsz1] at hr
          simp only [List.toList_toArray] at hr
          have hsp := fun q => get_splice (l := cs.toList) (xs := [a.eval x]) (o := m.o + i) (by simp; omega) q
          generalize hcs' : (cs.toList.take (m.o + i) ++ [a.eval x] ++ cs.toList.drop (m.o + i + 1)) = ll at *
          have hat : ∀ q, ll.toArray[q]? = if q = m.o + i then some (a.eval x) else cs[q]? := by
            intro q
            rw [List.getElem?_toArray]
            have := hsp q
            simp only [List.length_singleton] at this
            rw [this]
            by_cases e : q = m.o + i
            · subst e
              rw [if_pos ⟨Nat.le_refl _, by omega⟩, if_pos rfl]
              simp
            · rw [if_neg (by omega), if_neg e]
              simp
          have hlsz : ll.toArray.size = cs.size := by rw [← hcs']; simp; omega
          have hoth : ∀ q, q ≠ m.b → (w.setRow m.b ll.toArray).heap[q]? = w.heap[q]? := fun q hq => heap_setRow_other _ _ _ _ hq
          have hme : (w.setRow m.b ll.toArray).heap[m.b]? = some (.cells ll.toArray T (0, 0)) := setRow_heap w m.b cs ll.toArray T (0, 0) h1
          have hrowB : ∀ q b, rowB (w.setRow m.b ll.toArray) m lo rs (some (i, c)) q b → rowB w m lo rs ov q b := by
            intro q b hb
            obtain ⟨hx', c', T', fz', oo, len, cap, g1, g2, g3⟩ := hb
            obtain ⟨xs, hxs⟩ := hx'
            obtain ⟨hxs', hqi⟩ := isOwn_ov hov hxs
            rw [hme] at g1; cases g1
            rw [hat, if_neg (by omega)] at g2
            exact ⟨⟨xs, hxs'⟩, cs, T, (0, 0), oo, len, cap, h1, g2, g3⟩
          refine wp_skip' (w' := w.setRow m.b ll.toArray) ?_ ?_
          · simp only [execOp, ho, hpe]
            simp [hr]
          · refine hn undef _ β (Bet.le_refl β) (fun q h1 h2 => absurd h1 h2) ?_ ⟨[], rfl, trivial⟩
            rw [Mem.app_one]
            refine hSt.change rfl rfl rfl (by simp [World.setRow]) (Bet.le_refl β) (· = n) (fun q kq hq hN => ?_) (fun q kq hq hN => ?_) (fun b _ => ?_) (fun q kq m' b hq hN hm' hb => ?_) (fun q q' kq kq' m1 m2 hqq h1 h2 => absurd (h1.trans h2.symm) hqq)
            · rw [Mem.get_put, if_neg hN] at hq; exact hq
            · subst hN
              rw [Mem.get_put, if_pos rfl] at hq
              cases hq
              refine ⟨m, hm, .inl rfl, ?_, (fun h => by cases h), fun _ _ he => (by cases he), fun lo' rs' ov' he => ?_⟩
              · show max rs.length (i + 1) ≤ m.room
                omega
              · cases he
                refine ⟨hd.sz, hd.len, fun j c' e => (by cases e; exact hi), .inr ⟨ll.toArray, T, (0, 0), hme, by rw [hlsz]; exact h2, fun _ => rfl, fun q xs hxs => ?_, fun j' x' e => ?_⟩, fun q b hb => ?_⟩
                · obtain ⟨hxs', hqi⟩ := isOwn_ov hov hxs
                  obtain ⟨y, hy, hown⟩ := h4 q xs hxs'
                  refine ⟨y, by rw [hat, if_neg (by omega)]; exact hy, hown.heap fun b oo len cap e hcap => hoth b ?_⟩
                  exact (hd.dist q b ⟨⟨xs, hxs'⟩, cs, T, (0, 0), oo, len, cap, h1, by rw [hy, e], hcap⟩).1
                · cases e
                  exact ⟨a.eval x, by rw [hat, if_pos rfl], hxd⟩
                · have := hd.dist q b (hrowB q b hb)
                  exact ⟨this.1, fun j hj => this.2 j (hrowB j b hj)⟩
            · by_cases e : b = m.b
              · subst e
                exact .inr ⟨n, _, m, hM, rfl, hm, .inl ⟨hroom, rfl⟩, .inl rfl⟩
              · exact .inl (hoth b e)
            · subst hN
              rw [Mem.get_put, if_pos rfl] at hq
              cases hq
              rw [hm] at hm'; cases hm'
              refine .inr ⟨q, _, m, hM, hm, ?_, .inl ⟨.inl rfl, fun _ => rfl⟩⟩
              rcases hb with hb | ⟨lo', rs', ov', q', e, hb⟩
              · exact .inl hb
              · cases e
                exact .inr ⟨lo, rs, ov, q', rfl, hrowB q' b hb⟩
        · exact h.elim
      · exact h.elim
    · exact hno h
  · exact hno h
end Go.Sx
namespace Go.Sx

/-- the one row that is appended -/
def oneOf (M : Mem) (x : SV) (K : C → Prop) : Prop :=
  match x with
  | .o (.c (.s n2 off2 len2 sz2)) => (match M.get n2 with
    | some k2 => if len2 = 1 ∧ sz2 = 1 then ldOne k2.k off2 0 K else False
    | none => False)
  | _ => False
def evAppD (P : Program) (t t' : TypeId) (s x : SV) (M : Mem) (nm : Nat) (K : Kt) (no : Prop) : Prop :=
  match s with
  | .o (.c (.s n off len sz)) => (match M.get n with
    | some ⟨.deep lo rs ov, wr⟩ => (match ov, off with
      | none, 0 => if t' = t ∧ wr = true ∧ sz = 1 then (match P.underlying t with
        | some (.slice e) => (match P.info? e with
          | some ie => if ie.size = 1 ∧ ie.bytes ≤ 16384 ∧ (zeroC P e).map List.length = some 1 then
              oneOf M x fun c => (len = rs.length ∧ lo ≤ len ∧ len + 1 ≤ 4294967296) ∧ (match c with
                | .v (.slice none 0 0) => K (.o (.c (.s nm 0 (len + 1) 1))) [(n, none), (nm, some ⟨.deep lo (rs ++ [[]]) none, true⟩)]
                | c => if c.ok then K (.o (.c (.s nm 0 (len + 1) 1))) [(n, none), (nm, some ⟨.deep lo (rs ++ [[]]) (some (rs.length, c)), true⟩)] else False) else False
          | none => False)
        | _ => False) else False
      | _, _ => False)
    | _ => no)
  | _ => no

theorem oneOf_sound {rd : Mem} {x : SV} {K : C → Prop} (h : oneOf rd x K) : ∃ c, K c ∧ ∀ (W : World) (A : Nat → Prop) (β : Bet) (M : Mem) (w : World) (v : Value), St W A β M w → (∀ n k, rd.get n = some k → M.get n = some k) → denS β v x →
    ∃ A2 c2 y a, v = .slice A2 1 c2 ∧ A2 = some a ∧ w.cell? a = some y ∧ denC β y c := by
  unfold oneOf at h
  split at h
  · rename_i n2 off2 len2 sz2
    split at h
    · rename_i k2 hk2
      split at h
      · rename_i hc
        obtain ⟨rfl, rfl⟩ := hc
        obtain ⟨c, hat, hK⟩ := ldOne_sound h
        refine ⟨c, hK, fun W A β M w v hSt hrd hv => ?_⟩
        obtain ⟨m, hm, hh⟩ := hSt.names n2 k2 (hrd n2 k2 hk2)
        obtain ⟨A2, cap, m', hm', he, hsz, hlc, _, hA⟩ := hv
        rw [hm] at hm'; cases hm'
        obtain ⟨y, hy, hd⟩ := hh.cell hat
        rcases hA with h0 | ⟨rfl, _⟩
        · omega
        · exact ⟨_, cap, y, _, he, rfl, by simpa using hy, hd⟩
      · exact h.elim
    · exact h.elim
  · exact h.elim

/-- rows and one more -/
def ovNew (rs : List (List Int)) (c : C) : Option (Nat × C) := match c with
  | .v (.slice none 0 0) => none
  | c => some (rs.length, c)

theorem isOwn_app {lo : Nat} {rs : List (List Int)} {c : C} {q : Nat} {xs : List Int} (h : isOwn lo (rs ++ [[]]) (ovNew rs c) q xs) : isOwn lo rs none q xs ∨ (q = rs.length ∧ xs = [] ∧ ovNew rs c = none) := by
  obtain ⟨⟨h1, h2⟩, h3⟩ := h
  rcases Nat.lt_or_ge q rs.length with hq | hq
  · rw [List.getElem?_append_left hq] at h2
    exact .inl ⟨⟨h1, h2⟩, fun _ e => by cases e⟩
  · rw [List.getElem?_append_right hq] at h2
    have hq' : q = rs.length := by
      have := (List.getElem?_eq_some_iff.1 h2).1
      simp at this
      omega
    subst hq'
    refine .inr ⟨rfl, by simpa using h2.symm, ?_⟩
    unfold ovNew at h3 ⊢
    split
    · rfl
    · rename_i c hne
      split at h3
      · exact absurd rfl (hne)
      · exact absurd rfl (h3 _)

/-- THE BLOCK BEHIND AN APPEND -/
theorem deepAt_app {w w' : World} {β β' : Bet} {m m2 : Nm} {lo : Nat} {rs : List (List Int)} {c : C} {y : Value} (hd : deepAt w β m true lo rs none) (hlo : lo ≤ rs.length) (hm2 : m2.sz = 1) (hl2 : rs.length + 1 ≤ m2.room)
    {c2 : Array Value} {T : TypeId} (h2 : w'.heap[m2.b]? = some (.cells c2 T (0, 0))) (hin : m2.o + m2.room ≤ c2.size)
    (hold : ∀ cs T fz, w.heap[m.b]? = some (.cells cs T fz) → ∀ i, i < rs.length → c2[m2.o + i]? = cs[m.o + i]?) (hnew : c2[m2.o + rs.length]? = some y) (hy : denC β' y c)
    (hne : ∀ i b, rowB w m lo rs none i b → b ≠ m2.b ∧ w'.heap[b]? = w.heap[b]?) :
    deepAt w' β' m2 true lo (rs ++ [[]]) (ovNew rs c) ∧ ∀ i b, rowB w' m2 lo (rs ++ [[]]) (ovNew rs c) i b → rowB w m lo rs none i b := by
  have hB : ∀ i b, rowB w' m2 lo (rs ++ [[]]) (ovNew rs c) i b → rowB w m lo rs none i b := by
    intro i b ⟨⟨xs, hx⟩, cs, T', fz', oo, len, cap, g1, g2, g3⟩
    rw [h2] at g1; cases g1
    rcases isOwn_app hx with hx | ⟨rfl, _, hov⟩
    · have hi := (List.getElem?_eq_some_iff.1 hx.1.2).1
      rcases hd.there with ⟨_, h0⟩ | ⟨cs0, T0, fz0, f1, _⟩
      · rw [h0] at hi; exact absurd hi (Nat.not_lt_zero _)
      · exact ⟨⟨xs, hx⟩, cs0, T0, fz0, oo, len, cap, f1, by rw [← hold cs0 T0 fz0 f1 i hi]; exact g2, g3⟩
    · exfalso
      rw [hnew] at g2
      cases g2
      unfold ovNew at hov
      split at hov
      · have : Value.slice (some ⟨b, oo, none⟩) len cap = .slice none 0 0 := hy
        cases this
      · cases hov
  refine ⟨⟨fun _ => hm2, by simpa using hl2, fun j c' e => ?_, .inr ⟨c2, T, (0, 0), h2, hin, fun _ => rfl, fun i xs hx => ?_, fun j x e => ?_⟩, fun i b hb => ?_⟩, hB⟩
  · unfold ovNew at e
    split at e
    · cases e
    · cases e; simp
  · rcases isOwn_app hx with hx | ⟨rfl, rfl, hov⟩
    · have hi := (List.getElem?_eq_some_iff.1 hx.1.2).1
      rcases hd.there with ⟨_, h0⟩ | ⟨cs0, T0, fz0, f1, _, _, f4, _⟩
      · rw [h0] at hi; exact absurd hi (Nat.not_lt_zero _)
      · obtain ⟨y', hy', hown⟩ := f4 i xs hx
        refine ⟨y', by rw [hold cs0 T0 fz0 f1 i hi]; exact hy', hown.heap fun b oo len cap e hcap => (hne i b ⟨⟨xs, hx⟩, cs0, T0, fz0, oo, len, cap, f1, by rw [hy', e], hcap⟩).2⟩
    · refine ⟨y, hnew, ?_⟩
      unfold ovNew at hov
      split at hov
      · have : y = .slice none 0 0 := hy
        subst this
        exact ⟨none, 0, rfl, Nat.le_refl _, Nat.zero_le _, .inl rfl⟩
      · cases hov
  · unfold ovNew at e
    split at e
    · cases e
    · cases e
      exact ⟨y, hnew, hy⟩
  · have h1 := hB i b hb
    exact ⟨(hne i b h1).1, fun j hj => (hd.dist i b h1).2 j (hB j b hj)⟩

theorem appD_sound {P : Program} {o : Oper} {fr : List SV} {rd : Mem} {nm : Nat} (hnm : rd.get nm = none) {t t' : TypeId} {s x : Operand} (ho : o.op = .call { callee := .builtin .append, args := #[s, x], argTypes := #[t, t'] }) {K : Kt} {no : Prop}
    (hno : no → ∃ v ups, SemOp P o fr rd v ups ∧ K v ups) (h : evAppD P t t' (evO fr s) (evO fr x) rd nm K no) : ∃ v ups, SemOp P o fr rd v ups ∧ K v ups := by
  unfold evAppD at h
  split at h
  · rename_i n off len sz hs
    split at h
    · rename_i lo rs ov wr hk
      split at h
      · split at h
        · rename_i hc
          obtain ⟨rfl, rfl, rfl⟩ := hc
          split at h
          · rename_i e hu
            split at h
            · rename_i ie hie
              split at h
              · rename_i hc
                obtain ⟨hs1, hby, hzl⟩ := hc
                obtain ⟨c, ⟨⟨hlen, hlo, hmax⟩, h⟩, hsrc⟩ := oneOf_sound h
                subst hlen
                -- both kinds of row in one
                obtain ⟨hok, hK⟩ : c.ok = true ∧ K (.o (.c (.s nm 0 (rs.length + 1) 1))) [(n, none), (nm, some ⟨.deep lo (rs ++ [[]]) (ovNew rs c), true⟩)] := by
                  split at h
                  · exact ⟨rfl, h⟩
                  · rename_i hne
                    split at h
                    · rename_i hok
                      refine ⟨hok, ?_⟩
                      have : ovNew rs c = some (rs.length, c) := by
                        unfold ovNew
                        split
                        · exact (hne rfl).elim
                        · rfl
                      rw [this]; exact h
                    · exact h.elim
                have hne : n ≠ nm := fun e => by rw [e, hnm] at hk; cases hk
                refine ⟨_, _, ?_, hK⟩
                intro W A β M w a next Q hSt hop hrd hfresh hn
                have hsd := hop s (by simp [ho, Op.operands, Call.operands])
                have hxd := hop x (by simp [ho, Op.operands, Call.operands])
                obtain ⟨A2, c2, y, ad, xe, rfl, hcell, hyd⟩ := hsrc W A β M w _ hSt hrd hxd
                rw [hs] at hsd
                obtain ⟨B, cap, m, hm, se, hsz, hlc, hcm, hA⟩ := hsd
                have hM := hrd n _ hk
                obtain ⟨m', hm', hh⟩ := hSt.names n _ hM
                rw [hm] at hm'; cases hm'
                have hd := hh.dth lo rs none rfl
                have hone : y.oneCell' = true := hyd.ok hok
                obtain ⟨hβ, hMnm⟩ := hfresh nm (by simp [Ups.has]) hnm
                obtain ⟨zl, hz⟩ : ∃ zl, zeroC P e = some zl := by
                  cases hzz : zeroC P e with
                  | none => rw [hzz] at hzl; cases hzl
                  | some zl => exact ⟨zl, rfl⟩
                obtain ⟨zv, hzv, hzd⟩ := zeroC_sound hz β
                have hzz : ie.zero = some zv := by
                  have := hzv default
                  simp only [zeroValue, typeInfo, Sem.run_bind, run_program, Result.andThen_ok, hie, Sem.run_pure] at this
                  cases hzo : ie.zero with
                  | none => simp [hzo] at this
                  | some zo => simp [hzo] at this; rw [this]
                have hexec : ∀ v w', (Builtin.append_ #[t', t'] o.type #[.slice B rs.length cap, .slice (some ad) 1 c2]).run P w = .ok v w' → (execOp a.eval o).run P w = .ok (.value v) w' := by
                  intro v w' hr
                  simp only [execOp, ho, resolve, invoke, builtin, Sem.run_bind, Sem.run_pure, Result.andThen_ok, List.map_toArray, List.map_cons, List.map_nil, se, xe, hr]
                have hxc : ∀ j v, [y][j]? = some v → w.cell? (ad.add j) = some v := fun j v hj => by
                  cases j with
                  | zero =>
                    simp at hj
                    subst hj
                    have : ad.add 0 = ad := by
                      obtain ⟨b0, o0, sp⟩ := ad
                      cases sp <;> simp [Addr.add]
                    rw [this]; exact hcell
                  | succ j => simp at hj
                have hgone : (M.app [(n, none), (nm, some ⟨.deep lo (rs ++ [[]]) (ovNew rs c), true⟩)]).get n = none := by
                  simp only [Mem.app, Mem.get_put, if_neg hne, if_true]
                have hgets : ∀ q kq, (M.app [(n, none), (nm, some ⟨.deep lo (rs ++ [[]]) (ovNew rs c), true⟩)]).get q = some kq → (q = nm ∧ kq = ⟨.deep lo (rs ++ [[]]) (ovNew rs c), true⟩) ∨ (q ≠ n ∧ q ≠ nm ∧ M.get q = some kq) := by
                  intro q kq hq
                  simp only [Mem.app, Mem.get_put] at hq
                  split at hq
                  · exact .inl ⟨by assumption, by cases hq; rfl⟩
                  · split at hq
                    · cases hq
                    · exact .inr ⟨by assumption, by assumption, hq⟩
                -- the state, whatever the place of the new block
                have fin : ∀ (w' : World) (m2 : Nm), w'.os = w.os → w'.tape = w.tape → w'.output = w.output → w.heap.size ≤ w'.heap.size → m2.room ≠ 0 →
                    (m2.b = m.b ∧ m.room ≠ 0 ∨ w.heap.size ≤ m2.b) → (∀ b, b < w.heap.size → w'.heap[b]? = w.heap[b]? ∨ b = m.b ∧ m.room ≠ 0) →
                    deepAt w' (β.set nm m2) m2 true lo (rs ++ [[]]) (ovNew rs c) → (∀ i b, rowB w' m2 lo (rs ++ [[]]) (ovNew rs c) i b → rowB w m lo rs none i b) →
                    St W A (β.set nm m2) (M.app [(n, none), (nm, some ⟨.deep lo (rs ++ [[]]) (ovNew rs c), true⟩)]) w' := by
                  intro w' m2 e1 e2 e3 e4 e5 e6 e7 e8 e9
                  refine hSt.change e1 e2 e3 e4 (Bet.set_le hβ) (· = nm) (fun q kq hq hN => ?_) (fun q kq hq hN => ?_) (fun b hb => ?_) (fun q kq m' b hq hN hm' hb => ?_) (fun q q' kq kq' m1 m2 hqq h1 h2 => absurd (h1.trans h2.symm) hqq)
                  · rcases hgets q kq hq with ⟨e, _⟩ | ⟨_, _, h⟩
                    · exact absurd e hN
                    · exact h
                  · subst hN
                    rcases hgets q kq hq with ⟨_, rfl⟩ | ⟨_, e, _⟩
                    · refine ⟨m2, Bet.set_same _ _ _, .inl rfl, ?_, (fun h => by cases h), fun _ _ he => (by cases he), fun lo' rs' ov' he => (by cases he; exact e8)⟩
                      have hl := e8.len
                      simp only [List.length_append, List.length_singleton] at hl
                      show (match ovNew rs c with | none => (rs ++ [[]]).length | some (j, _) => max (rs ++ [[]]).length (j + 1)) ≤ m2.room
                      split
                      · simpa using hl
                      · rename_i j c' e
                        have := e8.lt j c' e
                        simp only [List.length_append, List.length_singleton] at this ⊢
                        exact Nat.max_le.2 ⟨hl, by omega⟩
                    · exact absurd rfl e
                  · rcases e7 b hb with h | ⟨rfl, hr⟩
                    · exact .inl h
                    · exact .inr ⟨n, _, m, hM, rfl, hm, .inl ⟨hr, rfl⟩, .inr hgone⟩
                  · subst hN
                    rcases hgets q kq hq with ⟨_, rfl⟩ | ⟨_, e, _⟩
                    · rw [Bet.set_same] at hm'; cases hm'
                      rcases hb with ⟨_, rfl⟩ | ⟨lo', rs', ov', i, e, hb⟩
                      · rcases e6 with ⟨e, hr⟩ | e
                        · exact .inr ⟨n, _, m, hM, hm, .inl ⟨hr, e.symm⟩, .inl ⟨.inr hgone, fun _ => rfl⟩⟩
                        · exact .inl e
                      · cases e
                        exact .inr ⟨n, _, m, hM, hm, .inr ⟨lo, rs, none, i, rfl, e9 i b hb⟩, .inl ⟨.inr hgone, fun _ => rfl⟩⟩
                    · exact absurd rfl e
                by_cases hroom : rs.length + 1 ≤ cap
                · -- there is room
                  rcases hA with h0 | ⟨rfl, hrm⟩
                  · omega
                  rw [Nat.zero_mul, Nat.add_zero] at se
                  rw [Nat.zero_add, hsz, Nat.mul_one] at hrm
                  have hroom0 : m.room ≠ 0 := by omega
                  obtain ⟨cs, T, h1, h2⟩ : ∃ cs T, w.heap[m.b]? = some (.cells cs T (0, 0)) ∧ m.o + m.room ≤ cs.size := by
                    rcases hd.there with ⟨h0, _⟩ | ⟨cs, T, fz, g1, g2, g3, _⟩
                    · exact absurd h0 hroom0
                    · have hz0 := g3 rfl
                      subst hz0
                      exact ⟨cs, T, g1, g2⟩
                  have hr := run_append_in (P := P) (ty := o.type) (c := c2) (o := m.o + 0 * m.sz) (sLen := rs.length) (news := [y]) (m := 1) (A := some ad) hu hie h1 (by rw [hs1]; rfl) (.inr ⟨ad, rfl, hxc⟩) (by simpa using hone) hroom (by rw [hs1]; simp; omega)
                  have hr' := hexec _ _ hr
                  rw [hs1, Nat.mul_one, Nat.zero_mul, Nat.add_zero] at hr'
                  simp only [List.length_singleton] at hr'
                  have hsp := fun q => get_splice (l := cs.toList) (xs := [y]) (o := m.o + rs.length) (by simp; omega) q
                  simp only [List.length_singleton] at hsp
                  generalize hcs' : (cs.toList.take (m.o + rs.length) ++ [y] ++ cs.toList.drop (m.o + rs.length + 1)) = ll at *
                  have hat : ∀ q, ll.toArray[q]? = if q = m.o + rs.length then some y else cs[q]? := by
                    intro q
                    rw [List.getElem?_toArray, hsp q]
                    by_cases e : q = m.o + rs.length
                    · subst e
                      rw [if_pos ⟨Nat.le_refl _, by omega⟩, if_pos rfl]
                      simp
                    · rw [if_neg (by omega), if_neg e]
                      simp
                  have hlsz : ll.toArray.size = cs.size := by rw [← hcs']; simp; omega
                  have hoth : ∀ q, q ≠ m.b → (w.setRow m.b ll.toArray).heap[q]? = w.heap[q]? := fun q hq => heap_setRow_other _ _ _ _ hq
                  have hme : (w.setRow m.b ll.toArray).heap[m.b]? = some (.cells ll.toArray T (0, 0)) := setRow_heap w m.b cs ll.toArray T (0, 0) h1
                  obtain ⟨k1, k2⟩ := deepAt_app (w' := w.setRow m.b ll.toArray) (β' := β.set nm m) (m2 := m) (c := c) (y := y) hd hlo hsz (by omega) hme (by rw [hlsz]; exact h2)
                    (fun cs0 T0 fz0 f1 i hi => by rw [h1] at f1; cases f1; rw [hat, if_neg (by omega)]) (by rw [hat, if_pos rfl]) (hyd.mono (Bet.set_le hβ)) (fun i b hb => ⟨(hd.dist i b hb).1, hoth b (hd.dist i b hb).1⟩)
                  refine wp_value hr' (hn _ _ (β.set nm m) (Bet.set_le hβ) (fun q g1 g2 => by have := Bet.set_dom g1 g2; subst this; simp [Ups.has]) (fin _ m rfl rfl rfl (by simp [World.setRow]) hroom0 (.inl ⟨rfl, hroom0⟩) (fun b _ => ?_) k1 k2) ⟨_, cap, m, Bet.set_same _ _ _, rfl, hsz, hroom, hcm, .inr ⟨by simp, by rw [hsz]; omega⟩⟩)
                  by_cases e : b = m.b
                  · exact .inr ⟨e, hroom0⟩
                  · exact .inl (hoth b e)
                · -- a new array
                  have hgr : cap < rs.length + 1 := by omega
                  have hfit := growslice_fits (bytes := ie.bytes) hgr (by
                    have : (rs.length + 1) * ie.bytes ≤ 4294967296 * 16384 := Nat.mul_le_mul hmax hby
                    omega)
                  -- the old rows
                  obtain ⟨olds, hlo', holds, hocell⟩ : ∃ olds : List Value, olds.length = rs.length ∧ (∀ cs T fz, w.heap[m.b]? = some (.cells cs T fz) → ∀ i, i < rs.length → olds[i]? = cs[m.o + i]?) ∧ (rs.length = 0 ∨ ∃ a, B = some a ∧ ∀ j v, olds[j]? = some v → w.cell? (a.add j) = some v) := by
                    by_cases h0 : rs.length = 0
                    · exact ⟨[], h0.symm, fun _ _ _ _ i hi => by omega, .inl h0⟩
                    · rcases hd.there with ⟨_, e⟩ | ⟨cs, T, fz, g1, g2, _⟩
                      · rw [e] at h0; exact absurd rfl h0
                      · have hlen := hd.len
                        have hcl : ((cs.toList.drop m.o).take rs.length).length = rs.length := by simp; omega
                        have hget : ∀ i, i < rs.length → ((cs.toList.drop m.o).take rs.length)[i]? = cs[m.o + i]? := fun i hi => by
                          rw [List.getElem?_take_of_lt hi, List.getElem?_drop, Array.getElem?_toList]
                        rcases hA with e | ⟨rfl, _⟩
                        · omega
                        refine ⟨_, hcl, fun cs' T' fz' f1 i hi => by rw [g1] at f1; cases f1; exact hget i hi, .inr ⟨_, rfl, fun j v hj => ?_⟩⟩
                        have hjl : j < rs.length := by have := (List.getElem?_eq_some_iff.1 hj).1; omega
                        rw [hget j hjl] at hj
                        rw [Addr.add_lit, cell_of_row w m.b _ cs T fz g1]
                        rw [Nat.zero_mul, Nat.add_zero]
                        exact hj
                  have hr := run_append_new (P := P) (ty := o.type) (c := c2) (olds := olds) (news := [y]) (m := 1) (A := some ad) hu hie hzz (by rw [hs1, Nat.mul_one]; exact hlo') hocell (by rw [hs1]; rfl) (.inr ⟨ad, rfl, hxc⟩) hgr (by omega) hfit
                  have hr' := hexec _ _ hr
                  have hge := grownCap_ge w (rs.length + 1) cap e
                  have hgm := grownCap_le_maxLen w (rs.length + 1) cap e (by simp only [maxLen]; omega)
                  generalize grownCap w (rs.length + 1) cap e = G at *
                  have hden := hzd.length
                  have hzs : zv.cells.size = 1 := by
                    rw [hz] at hzl
                    simp only [Option.map_some, Option.some.injEq] at hzl
                    simp at hden
                    omega
                  generalize hcc : (olds.toArray ++ [y].toArray ++ Builtin.zeroCells zv.cells (G - (rs.length + 1))) = cc at *
                  have hsize : cc.size = G := by
                    rw [← hcc]
                    simp only [Array.size_append, List.size_toArray, size_zeroCells, hlo', hzs, List.length_singleton]
                    omega
                  have hccO : ∀ i, i < rs.length → cc[i]? = olds[i]? := fun i hi => by
                    rw [← hcc, Array.append_assoc, Array.getElem?_append_left (by simp; omega)]
                    simp
                  have hccN : cc[rs.length]? = some y := by
                    rw [← hcc, Array.getElem?_append_left (by simp; omega), Array.getElem?_append_right (by simp; omega)]
                    simp [hlo']
                  have hold2 : ∀ q, q < w.heap.size → (w.drew.alloc (.cells cc e)).heap[q]? = w.heap[q]? := fun q hq => by
                    show (w.heap.push _)[q]? = _
                    rw [Array.getElem?_push, if_neg (by omega)]
                  have hnew2 : (w.drew.alloc (.cells cc e)).heap[w.heap.size]? = some (.cells cc e (0, 0)) := by
                    show (w.heap.push _)[w.heap.size]? = _
                    simp
                  obtain ⟨k1, k2⟩ := deepAt_app (w' := w.drew.alloc (.cells cc e)) (β' := β.set nm ⟨w.heap.size, 0, 1, G⟩) (m2 := ⟨w.heap.size, 0, 1, G⟩) (c := c) (y := y) hd hlo rfl hge hnew2 (by show 0 + G ≤ cc.size; omega)
                    (fun cs0 T0 fz0 f1 i hi => by rw [Nat.zero_add, hccO i hi]; exact holds cs0 T0 fz0 f1 i hi) (by rw [Nat.zero_add]; exact hccN) (hyd.mono (Bet.set_le hβ))
                    (fun i b hb => by
                      have hlt : b < w.heap.size := ownB.lt hh (.inr ⟨lo, rs, none, i, rfl, hb⟩)
                      exact ⟨by show b ≠ w.heap.size; omega, hold2 b hlt⟩)
                  refine wp_value hr' (hn _ _ (β.set nm ⟨w.heap.size, 0, 1, G⟩) (Bet.set_le hβ) (fun q g1 g2 => by have := Bet.set_dom g1 g2; subst this; simp [Ups.has]) (fin _ ⟨w.heap.size, 0, 1, G⟩ rfl rfl rfl (by show w.heap.size ≤ (w.heap.push _).size; simp) (by show G ≠ 0; omega) (.inr (Nat.le_refl _)) (fun b hb => .inl (hold2 b hb)) k1 k2) ⟨_, G, _, Bet.set_same _ _ _, rfl, rfl, hge, hgm, .inr ⟨by simp, by simp⟩⟩)
              · exact h.elim
            · exact h.elim
          · exact h.elim
        · exact h.elim
      · exact h.elim
    · exact hno h
  · exact hno h
end Go.Sx
namespace Go.Sx

def denLS (β : Bet) : List Value → List SV → Prop
  | [], [] => True
  | x :: xs, y :: ys => denS β x y ∧ denLS β xs ys
  | _, _ => False
theorem denLS.mono {β β' : Bet} (hb : β.le β') : ∀ {xs : List Value} {l : List SV}, denLS β xs l → denLS β' xs l
  | [], [], _ => trivial
  | _ :: _, _ :: _, ⟨h, r⟩ => ⟨h.mono hb, denLS.mono hb r⟩
theorem denLS.length {β : Bet} : ∀ {xs : List Value} {l : List SV}, denLS β xs l → xs.length = l.length
  | [], [], _ => rfl
  | _ :: _, _ :: _, ⟨_, r⟩ => congrArg (· + 1) (denLS.length r)
theorem denLS.append {β : Bet} : ∀ {xs ys : List Value} {l m : List SV}, denLS β xs l → denLS β ys m → denLS β (xs ++ ys) (l ++ m)
  | [], _, [], _, _, h => h
  | _ :: _, _, _ :: _, _, ⟨h, r⟩, k => ⟨h, denLS.append r k⟩

/-- the function can be entered -/
def callable (P : Program) (g : FuncId) : Bool :=
  match P.funcs[g]? with
  | some fn => !fn.body.isNone && !(fn.name == "runtime.NumGoroutine")
  | none => false

/-- WHAT A CALL GIVES -/
def CallFact (P : Program) (g : FuncId) (args : List SV) (rd : Mem) (v : SV) (ups : Ups) : Prop :=
  callable P g = true ∧ ∀ (W : World) (A : Nat → Prop) (β : Bet) (M : Mem) (w : World) (vals : List Value), St W A β M w → denLS β vals args → (∀ n k, rd.get n = some k → M.get n = some k) →
    (∀ n, ups.has n = true → rd.get n = none → β n = none ∧ M.get n = none) →
    Calls P g vals.toArray w fun e w' => ∃ v' β', e = .returned v' ∧ β.le β' ∧ (∀ n, β n = none → β' n ≠ none → ups.has n = true) ∧ St W A β' (M.app ups) w' ∧ denS β' v' v

structure acall (P : Program) (g : FuncId) (args : List SV) (rd : Mem) (nm : Nat) (K : Kt) : Prop where
  ex : ∃ v ups, CallFact P g args rd v ups ∧ K v ups

def evArgs (fr : List SV) : List Operand → List SV
  | [] => []
  | x :: r => evO fr x :: evArgs fr r
theorem evArgs_den {β : Bet} {a : Act} {fr : List SV} : ∀ (xs : List Operand), (∀ x ∈ xs, denS β (a.eval x) (evO fr x)) → denLS β (xs.map a.eval) (evArgs fr xs)
  | [], _ => trivial
  | x :: xs, h => ⟨h x (by simp), evArgs_den xs fun y hy => h y (by simp [hy])⟩

theorem run_callFunc {P : Program} {g : FuncId} (h : callable P g = true) (args : Array Value) (w : World) : (callFunc g args).run P w = .ok (.enter g args) w := by
  unfold callable at h
  split at h
  · rename_i fn hf
    simp only [Bool.and_eq_true, Bool.not_eq_true'] at h
    have h1 : ¬ fn.name = "runtime.NumGoroutine" := by simpa using h.2
    have h2 : ¬ fn.body = none := fun e => by have := h.1; rw [e] at this; cases this
    simp [callFunc, hf, h1, h2]
  · cases h

theorem SemOp.call {P : Program} {o : Oper} {fr : List SV} {rd : Mem} {g : FuncId} {args : List SV} {v : SV} {ups : Ups} (hc : CallFact P g args rd v ups)
    (h : ∀ (β : Bet) (a : Act), (∀ x ∈ o.op.operands, denS β (a.eval x) (evO fr x)) → ∃ vals : List Value, denLS β vals args ∧ ∀ w, (execOp a.eval o).run P w = .ok (.enter g vals.toArray) w) : SemOp P o fr rd v ups := by
  intro W A β M w a next Q hSt hop hrd hfresh hn
  obtain ⟨vals, hd, hr⟩ := h β a hop
  unfold Oper.wp
  rw [hr w]
  refine (hc.2 W A β M w vals hSt hd hrd hfresh).mono fun e w' ⟨v', β', he, h1, h2, h3, h4⟩ => ?_
  subst he
  exact hn v' w' β' h1 h2 h3 h4

def evArgsF (fr : List SV) : List Operand → (List SV → Prop) → Prop
  | [], K => K []
  | x :: r, K => forceS (evO fr x) fun v => evArgsF fr r fun vs => K (v :: vs)
theorem evArgsF_eq (fr : List SV) : ∀ (l : List Operand) (K : List SV → Prop), evArgsF fr l K = K (evArgs fr l)
  | [], _ => rfl
  | x :: r, K => by simp [evArgsF, evArgs, forceS_eq, evArgsF_eq fr r]

/-- what is held, as an argument -/
def cpS : Cp → SV
  | .v x => cst x
  | .p n i j => .o (.c (.p n i j))
theorem den_cpS {β : Bet} {x : Value} : ∀ {c : Cp}, denCp β x c → denS β x (cpS c)
  | .v y, h => by cases h; exact den_cst x
  | .p _ _ _, h => h
theorem denLS_cpS {β : Bet} : ∀ {xs : List Value} {l : List Cp}, denCps β xs l → denLS β xs (l.map cpS)
  | [], [], _ => trivial
  | _ :: _, _ :: _, ⟨h, r⟩ => ⟨den_cpS h, denLS_cpS r⟩
def plainV : List C → Option (List Value)
  | [] => some []
  | .v x :: r => (match plainV r with | some l => some (x :: l) | none => none)
  | _ :: _ => none
theorem plainV_den {β : Bet} : ∀ {l : List C} {vs us : List Value}, plainV l = some us → denL β vs l → vs = us
  | [], [], us, h, _ => by simp [plainV] at h; exact h.symm
  | .v x :: r, v :: vs, us, h, ⟨h1, h2⟩ => by
    unfold plainV at h
    split at h
    · rename_i l hl
      simp only [Option.some.injEq] at h
      subst h
      rw [plainV_den hl h2, show v = x from h1]
    · cases h
  | [], _ :: _, _, _, h => h.elim
  | .p _ _ _ :: _, _, _, h, _ => by simp [plainV] at h
  | .s _ _ _ _ :: _, _, _, h, _ => by simp [plainV] at h
  | .z :: _, _, _, h, _ => by simp [plainV] at h
  | .u :: _, _, _, h, _ => by simp [plainV] at h
  | .f _ _ _ :: _, _, _, h, _ => by simp [plainV] at h
  | .m _ :: _, _, _, h, _ => by simp [plainV] at h
/-- held by a function literal -/
def cpOf : SV → Option Cp
  | .o (.c (.v x)) => some (.v x)
  | .o (.c (.p n i j)) => some (.p n i j)
  | .o (.a l) => (match plainV l with | some vs => some (.v (.agg vs.toArray)) | none => none)
  | _ => none
theorem cpOf_den {β : Bet} {x : Value} {y : SV} {c : Cp} (h : cpOf y = some c) (hd : denS β x y) : denCp β x c := by
  unfold cpOf at h
  split at h
  · simp only [Option.some.injEq] at h; subst h; exact hd
  · simp only [Option.some.injEq] at h; subst h; exact hd
  · split at h
    · rename_i vs hvs
      simp only [Option.some.injEq] at h; subst h
      obtain ⟨us, e, hd⟩ := hd
      rw [e, plainV_den hvs hd]; rfl
    · cases h
  · cases h
def cpsOf : List SV → Option (List Cp)
  | [] => some []
  | x :: r => (match cpOf x, cpsOf r with | some c, some l => some (c :: l) | _, _ => none)
theorem cpsOf_den {β : Bet} : ∀ {xs : List Value} {l : List SV} {cs : List Cp}, cpsOf l = some cs → denLS β xs l → denCps β xs cs
  | [], [], cs, h, _ => by simp [cpsOf] at h; subst h; trivial
  | x :: xs, y :: l, cs, h, ⟨h1, h2⟩ => by
    unfold cpsOf at h
    split at h
    · rename_i c l' hc hl
      simp only [Option.some.injEq] at h
      subst h
      exact ⟨cpOf_den hc h1, cpsOf_den hl h2⟩
    · cases h
  | [], _ :: _, _, _, h => h.elim
  | _ :: _, [], _, _, h => h.elim
def evMakeFn (fn : Fn) (fi ca : List SV) (K : Kt) : Prop :=
  match fn, cpsOf fi, cpsOf ca with
  | .func g, some fi, some ca => K (.o (.c (.f g fi ca))) []
  | _, _, _ => False
theorem makeFn_sound {P : Program} {o : Oper} {fr : List SV} {rd : Mem} {fn : Fn} {first captured : Array Operand} (ho : o.op = .makeFunc fn first captured) {K : Kt} (h : evMakeFn fn (evArgs fr first.toList) (evArgs fr captured.toList) K) :
    ∃ v ups, SemOp P o fr rd v ups ∧ K v ups := by
  unfold evMakeFn at h
  split at h
  · rename_i g fi ca hfi hca
    refine ⟨_, _, SemOp.pure fun β a hop => ?_, h⟩
    have h1 := evArgs_den (β := β) (a := a) (fr := fr) first.toList fun x hx => hop x (by simp only [ho, Op.operands, Array.mem_append]; exact .inl (by simpa using hx))
    have h2 := evArgs_den (β := β) (a := a) (fr := fr) captured.toList fun x hx => hop x (by simp only [ho, Op.operands, Array.mem_append]; exact .inr (by simpa using hx))
    refine ⟨.func (.func g) (first.map a.eval) (captured.map a.eval), fun w => ?_, ⟨first.toList.map a.eval, captured.toList.map a.eval, ?_, cpsOf_den hfi h1, cpsOf_den hca h2⟩⟩
    · simp [execOp, ho, Instr.makeFunc]
    · congr 1 <;> (apply Array.ext'; simp)
  · exact h.elim

def evCall (P : Program) (f : SV) (args : List SV) (rd : Mem) (nm : Nat) (K : Kt) : Prop :=
  match f with
  | .o (.c (.v (.func (.func g) fi ca))) => (match fi.toList, ca.toList with
    | [], [] => acall P g args rd nm K
    | fs, cs => acall P g (fs.map cst ++ args ++ cs.map cst) rd nm K)
  | .o (.c (.f g fi ca)) => acall P g (fi.map cpS ++ args ++ ca.map cpS) rd nm K
  | _ => False

theorem denLS_cst {β : Bet} : ∀ (xs : List Value), denLS β xs (xs.map cst)
  | [] => trivial
  | x :: xs => ⟨den_cst x, denLS_cst xs⟩

theorem call_sound {P : Program} {o : Oper} {fr : List SV} {rd : Mem} {nm : Nat} {c : Call} {f : Operand} (ho : o.op = .call c) (hf : c.callee = .value f) {K : Kt} (h : evCall P (evO fr f) (evArgs fr c.args.toList) rd nm K) :
    ∃ v ups, SemOp P o fr rd v ups ∧ K v ups := by
  unfold evCall at h
  split at h
  · rename_i g fi ca hfv
    obtain ⟨args, hacall, hargs⟩ : ∃ args, acall P g args rd nm K ∧ ∀ (β : Bet) (vals : List Value), denLS β vals (evArgs fr c.args.toList) → denLS β (fi.toList ++ vals ++ ca.toList) args := by
      split at h
      · rename_i h1 h2
        exact ⟨_, h, fun β vals hd => by rw [h1, h2]; simpa using hd⟩
      · exact ⟨_, h, fun β vals hd => ((denLS_cst fi.toList).append hd).append (denLS_cst ca.toList)⟩
    obtain ⟨v, ups, hcf, hK⟩ := hacall.ex
    refine ⟨v, ups, SemOp.call hcf fun β a hop => ?_, hK⟩
    have hfd := hop f (by simp [ho, Op.operands, Call.operands, hf])
    rw [hfv] at hfd
    have hfe : a.eval f = .func (.func g) fi ca := hfd
    have hd := evArgs_den (β := β) (a := a) (fr := fr) c.args.toList (fun x hx => hop x (by simp only [ho, Op.operands, Call.operands, hf, Array.mem_append]; exact .inr (by simpa using hx)))
    refine ⟨_, hargs β _ hd, fun w => ?_⟩
    have hrun := run_callFunc hcf.1 (fi ++ c.args.map a.eval ++ ca) w
    simp only [execOp, ho, resolve, hf, hfe, Deferred.ofValue, Sem.run_bind, Sem.run_pure, Result.andThen_ok, invoke, hrun]
    congr 2
    apply Array.ext'
    simp
  · rename_i g fi ca hfv
    obtain ⟨v, ups, hcf, hK⟩ := h.ex
    refine ⟨v, ups, SemOp.call hcf fun β a hop => ?_, hK⟩
    have hfd := hop f (by simp [ho, Op.operands, Call.operands, hf])
    rw [hfv] at hfd
    obtain ⟨fs, cs, hfe, hd1, hd2⟩ := hfd
    have hd := evArgs_den (β := β) (a := a) (fr := fr) c.args.toList (fun x hx => hop x (by simp only [ho, Op.operands, Call.operands, hf, Array.mem_append]; exact .inr (by simpa using hx)))
    refine ⟨_, ((denLS_cpS hd1).append hd).append (denLS_cpS hd2), fun w => ?_⟩
    have hrun := run_callFunc hcf.1 (fs.toArray ++ c.args.map a.eval ++ cs.toArray) w
    simp only [execOp, ho, resolve, hf, hfe, Deferred.ofValue, Sem.run_bind, Sem.run_pure, Result.andThen_ok, invoke, hrun]
    congr 2
    apply Array.ext'
    simp
  · exact h.elim

/-! ### lengths, least and greatest -/
def evLen (P : Program) (t : TypeId) (x : SV) (K : Kt) : Prop :=
  match P.underlying t, x with
  | some (.slice _), .o (.c (.s _ _ len _)) => K (int .i64 len) []
  | some (.slice _), .o (.c .z) => K (int .i64 0) []
  | some (.slice _), .o (.c (.v (.slice _ n _))) => K (int .i64 n) []
  | some .string, .o (.c (.v (.string s))) => K (int .i64 s.size) []
  | some (.array n _), _ => K (int .i64 n) []
  | _, _ => False

theorem len_sound {P : Program} {o : Oper} {fr : List SV} {rd : Mem} {t : TypeId} {x : Operand} {c : Call} (ho : o.op = .call c) (hc : c.callee = .builtin .len) (ha : c.args.toList = [x]) (ht : c.argTypes.toList = [t]) {K : Kt}
    (h : evLen P t (evO fr x) K) : ∃ v ups, SemOp P o fr rd v ups ∧ K v ups := by
  have ha' : c.args = #[x] := by apply Array.ext'; simpa using ha
  have ht' : c.argTypes = #[t] := by apply Array.ext'; simpa using ht
  have main : ∀ (n : Int) (β : Bet) (a : Act), (∀ w, (Builtin.len_ #[t] o.type #[a.eval x]).run P w = .ok (.int .i64 n) w) → ∃ v', (∀ w, (execOp a.eval o).run P w = .ok (.value v') w) ∧ denS β v' (int .i64 n) := by
    intro n β a hr
    exact ⟨_, fun w => by simp [execOp, ho, resolve, hc, ha', ht', invoke, builtin, hr], rfl⟩
  have hx : x ∈ o.op.operands := by simp [ho, Op.operands, Call.operands, ha']
  unfold evLen at h
  split at h
  · rename_i n off len sz hu he
    refine ⟨_, _, SemOp.pure fun β a hop => main _ β a fun w => ?_, h⟩
    have hd := hop x hx
    rw [he] at hd
    obtain ⟨A, cap, m, _, hv, _⟩ := hd
    simp [Builtin.len_, hv, run_underlying hu, goInt]
  · rename_i hu he
    refine ⟨_, _, SemOp.pure fun β a hop => main _ β a fun w => ?_, h⟩
    have hd := hop x hx
    rw [he] at hd
    obtain ⟨A, hv⟩ := hd
    simp [Builtin.len_, hv, run_underlying hu, goInt]
  · rename_i A n cap hu he
    refine ⟨_, _, SemOp.pure fun β a hop => main _ β a fun w => ?_, h⟩
    have hd := hop x hx
    rw [he] at hd
    have hv : a.eval x = .slice A n cap := hd
    simp [Builtin.len_, hv, run_underlying hu, goInt]
  · rename_i s hu he
    refine ⟨_, _, SemOp.pure fun β a hop => main _ β a fun w => ?_, h⟩
    have hd := hop x hx
    rw [he] at hd
    have hv : a.eval x = .string s := hd
    simp [Builtin.len_, hv, run_underlying hu, goInt]
  · rename_i n e hu
    refine ⟨_, _, SemOp.pure fun β a hop => main _ β a fun w => ?_, h⟩
    cases a.eval x <;> simp [Builtin.len_, run_underlying hu, goInt]
  · exact h.elim

def evMM (least : Bool) (acc : SV) : List SV → Kt → Prop
  | [], K => (match acc with
    | .o (.c (.v (.int k x))) => K (int k x) []
    | _ => False)
  | y :: r, K => (match acc, y with
    | .o (.c (.v (.int k x))), .o (.c (.v (.int _ y))) => evMM least (int k (if least then (if y < x then y else x) else (if y > x then y else x))) r K
    | _, _ => False)

theorem evMM_sound {P : Program} (least : Bool) (f : Value → Value → Sem Value) (hf : ∀ k x k' y w, (f (.int k x) (.int k' y)).run P w = .ok (.int k (if least then (if y < x then y else x) else (if y > x then y else x))) w) :
    ∀ (ys : List SV) (acc : SV) (K : Kt), evMM least acc ys K → ∃ v, K v [] ∧ ∀ (β : Bet) (b : Value) (vals : List Value), denS β b acc → denLS β vals ys → ∃ v', denS β v' v ∧ ∀ w, (vals.foldlM f b).run P w = .ok v' w
  | [], acc, K, h => by
    unfold evMM at h
    split at h
    · rename_i k x
      refine ⟨_, h, fun β b vals hb hv => ?_⟩
      cases vals with
      | nil => exact ⟨b, hb, fun w => rfl⟩
      | cons => cases hv
    · exact h.elim
  | y :: ys, acc, K, h => by
    unfold evMM at h
    split at h
    · rename_i k x k' y'
      obtain ⟨v, hK, hv⟩ := evMM_sound least f hf ys _ K h
      refine ⟨v, hK, fun β b vals hb hvs => ?_⟩
      cases vals with
      | nil => cases hvs
      | cons u us =>
        obtain ⟨hu, hus⟩ := hvs
        have hb' : b = .int k x := hb
        have hu' : u = .int k' y' := hu
        subst hb' hu'
        obtain ⟨v', h1, h2⟩ := hv β _ us rfl hus
        exact ⟨v', h1, fun w => by simp [List.foldlM_cons, hf, h2]⟩
    · exact h.elim

theorem mm_sound {P : Program} {o : Oper} {fr : List SV} {rd : Mem} {x : Operand} {r : List Operand} {c : Call} (least : Bool) (ho : o.op = .call c) (hc : c.callee = .builtin (if least then .min else .max)) (ha : c.args.toList = x :: r) {K : Kt}
    (h : evMM least (evO fr x) (evArgs fr r) K) : ∃ v ups, SemOp P o fr rd v ups ∧ K v ups := by
  have ha' : c.args = (x :: r).toArray := by apply Array.ext'; simpa using ha
  have hmem : ∀ y ∈ x :: r, y ∈ o.op.operands := fun y hy => by
    simp only [ho, Op.operands, Call.operands, hc, ha', Array.mem_append]
    exact .inr (by simpa using hy)
  cases least with
  | true =>
    obtain ⟨v, hK, hv⟩ := evMM_sound (P := P) true Builtin.min2 (fun k x k' y w => by simp [Builtin.min2]) _ _ K h
    refine ⟨v, [], SemOp.pure fun β a hop => ?_, hK⟩
    obtain ⟨v', h1, h2⟩ := hv β (a.eval x) (r.map a.eval) (hop x (hmem x (by simp))) (evArgs_den r fun y hy => hop y (hmem y (by simp [hy])))
    refine ⟨v', fun w => ?_, h1⟩
    simp only [if_true] at hc
    simp only [execOp, ho, resolve, hc, ha', Sem.run_bind, Sem.run_pure, Result.andThen_ok, invoke, builtin, Builtin.min_, List.map_toArray, List.map_cons, h2 w]
  | false =>
    obtain ⟨v, hK, hv⟩ := evMM_sound (P := P) false Builtin.max2 (fun k x k' y w => by simp [Builtin.max2]) _ _ K h
    refine ⟨v, [], SemOp.pure fun β a hop => ?_, hK⟩
    obtain ⟨v', h1, h2⟩ := hv β (a.eval x) (r.map a.eval) (hop x (hmem x (by simp))) (evArgs_den r fun y hy => hop y (hmem y (by simp [hy])))
    refine ⟨v', fun w => ?_, h1⟩
    simp only [Bool.false_eq_true, if_false] at hc
    simp only [execOp, ho, resolve, hc, ha', Sem.run_bind, Sem.run_pure, Result.andThen_ok, invoke, builtin, Builtin.max_, List.map_toArray, List.map_cons, h2 w]

/-! ### the step of whatever operation -/
noncomputable def evS (P : Program) (o : Oper) (fr : List SV) (rd : Mem) (nm : Nat) (K : Kt) : Prop :=
  match o.op with
  | .move x => K (evO fr x) []
  | .assign x => K (evO fr x) []
  | .pick c a b => evPick (evO fr c) (evO fr a) (evO fr b) K
  | .alloc t => evAlloc P t nm K
  | .box _ x => evBox (evO fr x) nm K
  | .build t ps => evBuild P t (evParts fr ps.toList) K
  | .buildSlice t n ps => evBuild0 P t n (evParts fr ps.toList) nm K
  | .load t x => evLoadD P t (evO fr x) rd nm K (evLoadG P t (evO fr x) rd K (evLoad P t (evO fr x) rd K))
  | .store t p x => evStoreD P t (evO fr p) (evO fr x) rd K (evStore P t (evO fr p) (evO fr x) rd K)
  | .nilCheck x => evNil (evO fr x) K
  | .binOp op t x y _ => evBin P op t (evO fr x) (evO fr y) K
  | .unOp op _ x => evUn op (evO fr x) K
  | .convert s d x => evConvS P s d (evO fr x) rd K
  | .makeSlice t l c => evMake P t (evO fr l) (evO fr c) nm K
  | .slice t x lo hi mx => evSlice P t (evO fr x) (lo.map (evO fr)) (hi.map (evO fr)) (mx.map (evO fr)) (isZero mx) K
  | .fieldAddr t x f => evFieldAddr P t (evO fr x) f K
  | .field t x f => evField P t (evO fr x) f K
  | .indexAddr t x i => evIndexG P t (evO fr x) (evO fr i) K (evIndexAddr P t (evO fr x) (evO fr i) K)
  | .index t x i => evIndexT P t (evO fr x) (evO fr i) K (evIndex P t (evO fr x) (evO fr i) K)
  | .extract x i => evExtract (evO fr x) i K
  | .makeFunc fn first captured => evMakeFn fn (evArgs fr first.toList) (evArgs fr captured.toList) K
  | .makeMap t x => evMakeMap P t (x.map (evO fr)) nm K
  | .mapUpdate t m k x => evMapUpdK P t (evO fr m) (evO fr k) (evO fr x) rd K (evMapUpd P t (evO fr m) (evO fr k) (evO fr x) rd K)
  | .lookup t m k comma => evLookupK P t (evO fr m) (evO fr k) comma rd K
  | .call c => (match c.callee with
    | .value f => evArgsF fr c.args.toList fun args => evCall P (evO fr f) args rd nm K
    | .builtin .len => (match c.args.toList, c.argTypes.toList with
      | [x], [t] => evLenM P t (evO fr x) rd K (evLen P t (evO fr x) K)
      | _, _ => False)
    | .builtin .append => (match c.args.toList, c.argTypes.toList with
      | [s, x], [t, t'] => evAppD P t t' (evO fr s) (evO fr x) rd nm K (evApp P t t' (evO fr s) (evO fr x) rd nm K)
      | _, _ => False)
    | .builtin .min => (match c.args.toList with
      | x :: r => evMM true (evO fr x) (evArgs fr r) K
      | [] => False)
    | .builtin .max => (match c.args.toList with
      | x :: r => evMM false (evO fr x) (evArgs fr r) K
      | [] => False)
    | .builtin .clear => (match c.args.toList, c.argTypes.toList with
      | [x], [t] => evClear P t (evO fr x) rd K
      | _, _ => False)
    | _ => False)
  | _ => False

theorem evS_sound {P : Program} {o : Oper} {fr : List SV} {rd : Mem} {nm : Nat} (hnm : rd.get nm = none) {K : Kt} (h : evS P o fr rd nm K) : ∃ v ups, SemOp P o fr rd v ups ∧ K v ups := by
  unfold evS at h
  split at h
  · rename_i ho; exact move_sound (.inl ho) h
  · rename_i ho; exact move_sound (.inr ho) h
  · rename_i ho; exact pick_sound ho h
  · rename_i ho; exact alloc_sound hnm ho h
  · rename_i ho; exact box_sound hnm ho h
  · rename_i ho; exact build_sound ho h
  · rename_i ho; exact build0_sound hnm ho h
  · rename_i ho; exact loadD_sound hnm ho (loadG_sound ho (load_op_sound ho)) h
  · rename_i ho; exact storeD_sound ho (store_sound ho) h
  · rename_i ho; exact nil_sound ho h
  · rename_i ho; exact bin_sound ho h
  · rename_i ho; exact un_sound ho h
  · rename_i ho; exact convS_sound ho h
  · rename_i ho; exact make_sound hnm ho h
  · rename_i ho; exact slice_sound ho h
  · rename_i ho; exact fieldAddr_sound ho h
  · rename_i ho; exact field_sound ho h
  · rename_i ho; exact indexG_sound ho (indexAddr_sound ho) h
  · rename_i ho; exact indexT_sound ho (index_sound ho) h
  · rename_i ho; exact extract_sound ho h
  · rename_i ho; exact makeFn_sound ho h
  · rename_i ho; exact makeMap_sound hnm ho h
  · rename_i ho; exact mapUpdK_sound ho (mapUpd_sound ho) h
  · rename_i ho; exact lookupK_sound ho h
  · rename_i c ho
    split at h
    · rename_i hc; rw [evArgsF_eq] at h; exact call_sound ho hc h
    · rename_i hc
      split at h
      · rename_i ha ht; exact lenM_sound ho hc ha ht (len_sound ho hc ha ht) h
      · exact h.elim
    · rename_i hc
      split at h
      · rename_i s x t t' ha ht
        obtain ⟨callee, args, argTypes⟩ := c
        have ha' : args = #[s, x] := by apply Array.ext'; simpa using ha
        have ht' : argTypes = #[t, t'] := by apply Array.ext'; simpa using ht
        simp only at hc
        subst ha' ht' hc
        exact appD_sound hnm ho (app_sound hnm ho) h
      · exact h.elim
    · rename_i hc
      split at h
      · rename_i ha; exact mm_sound true ho hc ha h
      · exact h.elim
    · rename_i hc
      split at h
      · rename_i ha; exact mm_sound false ho hc ha h
      · exact h.elim
    · rename_i hc
      split at h
      · rename_i x t ha ht
        obtain ⟨callee, args, argTypes⟩ := c
        have ha' : args = #[x] := by apply Array.ext'; simpa using ha
        have ht' : argTypes = #[t] := by apply Array.ext'; simpa using ht
        simp only at hc
        subst ha' ht' hc
        exact clear_sound ho h
      · exact h.elim
    · exact h.elim
  · exact h.elim
end Go.Sx
namespace Go.Sx

/-- what is kept of an operation that was carried out, or passed over -/
structure Rec where
  go : Bool
  fp : List Nat
  v : SV
  ups : Ups

def res (M : Mem) (fp : List Nat) : Mem := go M 0
where
  go : Mem → Nat → Mem
    | [], _ => []
    | x :: l, i => (if fp.contains i then x else none) :: go l (i + 1)
theorem res_go_get (fp : List Nat) : ∀ (M : Mem) (i n : Nat), (res.go fp M i).get n = if fp.contains (i + n) then M.get n else none
  | [], i, n => by simp [res.go, Mem.get]
  | x :: l, i, 0 => by simp [res.go, Mem.get]
  | x :: l, i, n + 1 => by
    have := res_go_get fp l (i + 1) n
    simp only [res.go, Mem.get, this]
    rw [show i + 1 + n = i + (n + 1) by omega]
theorem res_get (M : Mem) (fp : List Nat) (n : Nat) : (res M fp).get n = if fp.contains n then M.get n else none := by
  have := res_go_get fp M 0 n
  simpa [res] using this

def cellNames : C → List Nat
  | .p n _ _ => [n]
  | .s n _ _ _ => [n]
  | .f _ fi ca => (fi ++ ca).flatMap fun | .p n _ _ => [n] | _ => []
  | .m n => [n]
  | _ => []
def svNames : SV → List Nat
  | .o (.c c) => cellNames c
  | .o (.a l) => l.flatMap cellNames
  | .t l => l.flatMap fun | .c c => cellNames c | .a l => l.flatMap cellNames
def blkNames (M : Mem) (n : Nat) : List Nat :=
  match M.get n with
  | some ⟨.box l, _⟩ => l.flatMap cellNames
  | _ => []
def mapNames : SV → List Nat
  | .o (.c (.m n)) => [n]
  | _ => []
/-- the tables at global variables -/
def tabNames : Mem → Nat → List Nat
  | [], _ => []
  | some ⟨.map .glob _, _⟩ :: l, i => i :: tabNames l (i + 1)
  | _ :: l, i => tabNames l (i + 1)
/-- the names that an operation may look at or write -/
def fpOf (o : Oper) (fr : List SV) (M : Mem) : List Nat :=
  match o.op with
  | .load _ x => svNames (evO fr x)
  | .store _ x _ => svNames (evO fr x)
  | .convert _ _ x => svNames (evO fr x)
  | .mapUpdate _ m _ _ => svNames (evO fr m)
  | .lookup _ m _ _ => svNames (evO fr m)
  | .call c => (match c.callee with
    | .builtin .len => (evArgs fr c.args.toList).flatMap mapNames
    | .value f => let l := svNames (evO fr f) ++ (evArgs fr c.args.toList).flatMap svNames
           let l2 := l.flatMap (blkNames M)
           l ++ l2 ++ l2.flatMap (blkNames M) ++ tabNames M 0
    | _ => let l := (evArgs fr c.args.toList).flatMap svNames
           l ++ l.flatMap (blkNames M))
  | _ => []

def okUps (rd : Mem) (len : Nat) (ups : Ups) : Bool := ups.all fun u => (rd.get u.1).isSome || Nat.ble len u.1

/-- is the operation wanted? 'none': not known -/
def wantA (ops : Array Oper) (o : Oper) (fr : List SV) : Option Bool :=
  match o.guard with
  | none => some true
  | some (j, want) => (match (ops[j]?).bind (·.dst) with
    | none => some false
    | some d => (match frGet fr d with
      | .o (.c (.v (.bool b))) => some (b == want)
      | .t [] => some false
      | _ => none))

def runOps (P : Program) (ops : Array Oper) (draw : Bool) : List Oper → List SV → Mem → List Rec → (List SV → Mem → List Rec → Prop) → Prop
  | [], fr, M, rs, K => K fr M rs.reverse
  | o :: l, fr, M, rs, K =>
    let go (fr : List SV) : Prop :=
      let fp := if draw then fpOf o fr M else []
      let rd := if draw then res M fp else M
      evS P o fr rd M.length fun v ups => if okUps rd M.length ups then runOps P ops draw l (frPut fr o.dst v) (M.app ups) (⟨true, fp, v, ups⟩ :: rs) K else False
    let skip (fr : List SV) : Prop := runOps P ops draw l (frPut fr o.dst (.t [])) M (⟨false, [], .t [], []⟩ :: rs) K
    match o.guard with
    | none => go fr
    | some (j, want) => (match (ops[j]?).bind (·.dst) with
      | none => skip fr
      | some d => (match frGet fr d with
        | .o (.c (.v (.bool b))) => bsel b (bsel want (go (frSet fr d (boo true))) (skip (frSet fr d (boo true)))) (bsel want (skip (frSet fr d (boo false))) (go (frSet fr d (boo false))))
        | .t [] => skip fr
        | _ => False))

/-- the text's order, as facts -/
def Text (P : Program) (ops : Array Oper) (draw : Bool) : List Oper → List SV → Mem → List Rec → List SV → Mem → Prop
  | [], fr, M, [], fr', M' => fr' = fr ∧ M' = M
  | o :: l, fr, M, r :: rs, fr', M' =>
    wantA ops o fr = some r.go ∧
    (if r.go then
      let rd := if draw then res M r.fp else M
      SemOp P o fr rd r.v r.ups ∧ okUps rd M.length r.ups = true
     else r.v = .t [] ∧ r.ups = []) ∧
    Text P ops draw l (frPut fr o.dst r.v) (M.app r.ups) rs fr' M'
  | _, _, _, _, _, _ => False

theorem frSet_self : ∀ (fr : List SV) (d : Nat), frSet fr d (frGet fr d) = fr
  | [], _ => rfl
  | _ :: _, 0 => rfl
  | x :: l, d + 1 => congrArg (x :: ·) (frSet_self l d)

theorem Mem.get_len (M : Mem) : M.get M.length = none := Mem.get_ge M _ (Nat.le_refl _)

theorem runOps_text {P : Program} {ops : Array Oper} {draw : Bool} : ∀ (l : List Oper) (fr : List SV) (M : Mem) (rs : List Rec) (K : List SV → Mem → List Rec → Prop), runOps P ops draw l fr M rs K →
    ∃ rs' fr' M', Text P ops draw l fr M rs' fr' M' ∧ K fr' M' (rs.reverse ++ rs')
  | [], fr, M, rs, K, h => ⟨[], fr, M, ⟨rfl, rfl⟩, by simpa [runOps] using h⟩
  | o :: l, fr, M, rs, K, h => by
    have hgo : ∀ {fr : List SV}, wantA ops o fr = some true →
        (let fp := if draw then fpOf o fr M else []
         let rd := if draw then res M fp else M
         evS P o fr rd M.length fun v ups => if okUps rd M.length ups then runOps P ops draw l (frPut fr o.dst v) (M.app ups) (⟨true, fp, v, ups⟩ :: rs) K else False) →
        ∃ rs' fr' M', Text P ops draw (o :: l) fr M rs' fr' M' ∧ K fr' M' (rs.reverse ++ rs') := by
      intro fr hw h
      simp only at h
      generalize hfp : (if draw = true then fpOf o fr M else []) = fp at h
      generalize hrdd : (if draw = true then res M fp else M) = rd at h
      have hnm : rd.get M.length = none := by
        rw [← hrdd]
        cases draw with
        | true => simp only [if_true]; rw [res_get]; split; exact Mem.get_len M; rfl
        | false => simp only [Bool.false_eq_true, if_false]; exact Mem.get_len M
      obtain ⟨v, ups, hsem, hK⟩ := evS_sound hnm h
      by_cases hok : okUps rd M.length ups = true
      · rw [if_pos hok] at hK
        obtain ⟨rs', fr', M', ht, hk⟩ := runOps_text l _ _ _ _ hK
        refine ⟨⟨true, fp, v, ups⟩ :: rs', fr', M', ⟨hw, ?_, ht⟩, by simpa using hk⟩
        simp only [if_true, hrdd]
        exact ⟨hsem, hok⟩
      · rw [if_neg hok] at hK
        exact hK.elim
    have hskip : ∀ {fr : List SV}, wantA ops o fr = some false → runOps P ops draw l (frPut fr o.dst (.t [])) M (⟨false, [], .t [], []⟩ :: rs) K →
        ∃ rs' fr' M', Text P ops draw (o :: l) fr M rs' fr' M' ∧ K fr' M' (rs.reverse ++ rs') := by
      intro fr hw h
      obtain ⟨rs', fr', M', ht, hk⟩ := runOps_text l _ _ _ _ h
      exact ⟨⟨false, [], .t [], []⟩ :: rs', fr', M', ⟨hw, by simp, ht⟩, by simpa using hk⟩
    unfold runOps at h
    simp only at h
    split at h
    · rename_i hg
      exact hgo (by simp [wantA, hg]) h
    · rename_i j want hg
      split at h
      · rename_i hd
        exact hskip (by simp only [wantA, hg, hd]) h
      · rename_i d hd
        split at h
        · rename_i b hb
          have hself : frSet fr d (boo b) = fr := by
            have := frSet_self fr d
            rw [hb] at this
            exact this
          have hw : wantA ops o fr = some (b == want) := by simp only [wantA, hg, hd, hb]
          cases b with
          | true =>
            rw [hself] at h
            cases want with
            | true => exact hgo (by rw [hw]; rfl) h
            | false => exact hskip (by rw [hw]; rfl) h
          | false =>
            simp only [bsel] at h
            rw [hself] at h
            cases want with
            | true => exact hskip (by rw [hw]; rfl) h
            | false => exact hgo (by rw [hw]; rfl) h
        · rename_i hb
          exact hskip (by simp only [wantA, hg, hd, hb]) h
        · exact h.elim

theorem wanted_of {ops : Array Oper} {o : Oper} {fr : List SV} {β : Bet} {tmps : Array Value} {b : Bool} (h : wantA ops o fr = some b) (hF : ∀ d ∈ o.looksAt ops, denS β (tmps.getD d undef) (frGet fr d)) :
    Region.wanted o (yielded ops tmps) = b := by
  unfold wantA at h
  unfold Region.wanted
  split at h
  · rename_i hg; rw [hg]; cases h; rfl
  · rename_i j want hg
    rw [hg]
    simp only
    unfold yielded
    split at h
    · rename_i hd
      cases h
      simp [hd]
    · rename_i d hd
      have hdm : d ∈ o.looksAt ops := by simp [Oper.looksAt, hg, hd]
      have hden := hF d hdm
      split at h
      · rename_i b' hb
        cases h
        rw [hb] at hden
        have he : tmps.getD d undef = .bool b' := hden
        have hlt : d < tmps.size := by
          rcases Nat.lt_or_ge d tmps.size with h' | h'
          · exact h'
          · simp [Array.getD, Nat.not_lt.2 h', undef] at he
        have he' : tmps[d]? = some (.bool b') := by
          simp [Array.getD, hlt] at he
          simp [hlt, he]
        simp only [hd, Option.bind_some, he']
        cases b' <;> cases want <;> rfl
      · rename_i hb
        cases h
        rw [hb] at hden
        obtain ⟨vs, he, hvs⟩ := hden
        cases vs with
        | cons => cases hvs
        | nil =>
          simp only [hd, Option.bind_some]
          cases ht : tmps[d]? with
          | none => rfl
          | some x =>
            have : x = .tuple #[] := by
              have hlt : d < tmps.size := (Array.getElem?_eq_some_iff.1 ht).1
              simp [Array.getD, hlt] at he
              rw [Array.getElem?_eq_getElem hlt] at ht
              cases ht
              exact he
            subst this
            rfl
      · cases h

/-- names that are not yet given out -/
def Top (β : Bet) (n : Nat) : Prop := ∀ k, n ≤ k → β k = none

theorem Mem.put_length : ∀ (M : Mem) (n : Nat) (b : Option Blk), M.length ≤ (M.put n b).length ∧ n < (M.put n b).length
  | [], 0, _ => by simp [Mem.put]
  | [], n + 1, b => by have := Mem.put_length [] n b; simp [Mem.put] at this ⊢; omega
  | _ :: l, 0, _ => by simp [Mem.put]
  | _ :: l, n + 1, b => by have := Mem.put_length l n b; simp [Mem.put]; omega
theorem Mem.app_length : ∀ (ups : Ups) (M : Mem), M.length ≤ (M.app ups).length ∧ ∀ n, ups.has n = true → n < (M.app ups).length
  | [], M => ⟨Nat.le_refl _, fun n h => by cases h⟩
  | (k, b) :: r, M => by
    obtain ⟨h1, h2⟩ := Mem.app_length r (M.put k b)
    obtain ⟨h3, h4⟩ := Mem.put_length M k b
    refine ⟨Nat.le_trans h3 h1, fun n hn => ?_⟩
    simp only [Ups.has, Bool.or_eq_true, beq_iff_eq] at hn
    rcases hn with rfl | hn
    · exact Nat.lt_of_lt_of_le h4 h1
    · exact h2 n hn

theorem okUps_fresh {β : Bet} {M rd : Mem} {ups : Ups} (ht : Top β M.length) (h : okUps rd M.length ups = true) : ∀ n, ups.has n = true → rd.get n = none → β n = none ∧ M.length ≤ n := by
  intro n hn hr
  have : ∃ b, (n, b) ∈ ups := by
    clear h
    induction ups with
    | nil => cases hn
    | cons u r ih =>
      obtain ⟨k, b⟩ := u
      simp only [Ups.has, Bool.or_eq_true, beq_iff_eq] at hn
      rcases hn with rfl | hn
      · exact ⟨b, by simp⟩
      · obtain ⟨b', hb'⟩ := ih hn
        exact ⟨b', by simp [hb']⟩
  obtain ⟨b, hb⟩ := this
  have h' := List.all_eq_true.1 h _ hb
  simp only [hr, Option.isSome_none, Bool.false_or] at h'
  have hle : M.length ≤ n := Nat.le_of_ble_eq_true h'
  exact ⟨ht n hle, hle⟩

/-- A REGION IN THE TEXT's ORDER -/
theorem text_wpR {P : Program} {ops : Array Oper} {Q : Exit → Act → World → Prop} {W : World} {A : Nat → Prop} {rest : List Oper} : ∀ (l : List Oper) (fr : List SV) (M : Mem) (rs : List Rec) (fr' : List SV) (M' : Mem) (β : Bet) (a : Act) (w : World),
    Text P ops false l fr M rs fr' M' → St W A β M w → Fr β a.tmps fr → Top β M.length →
    (∀ β' a' w', β.le β' → St W A β' M' w' → Fr β' a'.tmps fr' → Top β' M'.length → a'.defers = a.defers → wpList P ops Q rest a' w') → wpList P ops Q (l ++ rest) a w
  | [], fr, M, rs, fr', M', β, a, w, ht, hSt, hF, hT, hQ => by
    cases rs with
    | cons => exact ht.elim
    | nil =>
      obtain ⟨rfl, rfl⟩ := ht
      exact hQ β a w (Bet.le_refl β) hSt hF hT rfl
  | o :: l, fr, M, rs, fr', M', β, a, w, ht, hSt, hF, hT, hQ => by
    cases rs with
    | nil => exact ht.elim
    | cons r rs =>
      obtain ⟨hw, hr, ht⟩ := ht
      have hwanted := wanted_of (β := β) (tmps := a.tmps) hw (fun d _ => hF.den d)
      show wpList P ops Q (o :: (l ++ rest)) a w
      unfold wpList
      rw [hwanted]
      have hput : ∀ (x : Act) (d : Option Tmp) (v : Value), (x.put d v).defers = x.defers := fun x d v => by cases d <;> rfl
      cases hg : r.go with
      | true =>
        rw [hg] at hr
        simp only [if_true, Bool.false_eq_true, if_false] at hr
        obtain ⟨hsem, hok⟩ := hr
        simp only [if_true]
        refine .inl (hsem W A β M w a _ Q hSt (fun x _ => hF.ev x) (fun n k h => h) (fun n hn hr => ?_) fun v' w' β' hle hdom hSt' hd => ?_)
        · obtain ⟨h1, h2⟩ := okUps_fresh hT hok n hn hr
          exact ⟨h1, hr⟩
        · obtain ⟨hl1, hl2⟩ := Mem.app_length r.ups M
          refine text_wpR l _ _ rs fr' M' β' _ w' ht hSt' ((hF.mono hle).put o.dst hd) (fun k hk => ?_) fun β'' a'' w'' hle' h1 h2 h3 h4 => hQ β'' a'' w'' (Bet.le_trans hle hle') h1 h2 h3 (by rw [h4, hput])
          cases hb : β' k with
          | none => rfl
          | some m =>
            exfalso
            have hn : β k = none := hT k (by omega)
            have := hl2 k (hdom k hn (by rw [hb]; simp))
            omega
      | false =>
        rw [hg] at hr
        simp only [Bool.false_eq_true, if_false] at hr
        obtain ⟨hv, hu⟩ := hr
        rw [hv, hu] at ht
        simp only [Bool.false_eq_true, if_false]
        exact text_wpR l _ _ rs fr' M' β _ w ht hSt (hF.put o.dst (x := .t []) ⟨[], rfl, trivial⟩) hT fun β'' a'' w'' hle' h1 h2 h3 h4 => hQ β'' a'' w'' hle' h1 h2 h3 (by rw [h4, hput])
theorem text_wp {P : Program} {ops : Array Oper} {Q : Exit → Act → World → Prop} {W : World} {A : Nat → Prop} (l : List Oper) (fr : List SV) (M : Mem) (rs : List Rec) (fr' : List SV) (M' : Mem) (β : Bet) (a : Act) (w : World)
    (ht : Text P ops false l fr M rs fr' M') (hSt : St W A β M w) (hF : Fr β a.tmps fr) (hT : Top β M.length)
    (hQ : ∀ β' a' w', β.le β' → St W A β' M' w' → Fr β' a'.tmps fr' → Top β' M'.length → a'.defers = a.defers → Q .normal a' w') : wpList P ops Q l a w := by
  have := text_wpR (rest := []) l fr M rs fr' M' β a w ht hSt hF hT hQ
  rwa [List.append_nil] at this
end Go.Sx
namespace Go.Sx

def frP (p : Nat → Bool) : List Oper → List Rec → Nat → List SV → List SV
  | o :: l, r :: rs, i, fr => frP p l rs (i + 1) (if p i then frPut fr o.dst r.v else fr)
  | _, _, _, fr => fr
def mP (p : Nat → Bool) : List Rec → Nat → Mem → Mem
  | r :: rs, i, M => mP p rs (i + 1) (if p i then M.app r.ups else M)
  | _, _, M => M
def lookF (p : Nat → Bool) : List Oper → List Rec → Nat → Nat → Option SV
  | o :: l, r :: rs, i, t => (match lookF p l rs (i + 1) t with
    | some v => some v
    | none => if p i && o.dst == some t then some r.v else none)
  | _, _, _, _ => none
def Ups.look : Ups → Nat → Option Blk
  | [], _ => none
  | (n, b) :: r, k => if Ups.has r k then Ups.look r k else if k = n then b else none
def lookM (p : Nat → Bool) : List Rec → Nat → Nat → Option (Option Blk)
  | r :: rs, i, n => (match lookM p rs (i + 1) n with
    | some v => some v
    | none => if p i && r.ups.has n then some (r.ups.look n) else none)
  | _, _, _ => none

theorem Mem.get_app : ∀ (ups : Ups) (M : Mem) (n : Nat), (M.app ups).get n = if ups.has n then ups.look n else M.get n
  | [], M, n => rfl
  | (k, b) :: r, M, n => by
    have := Mem.get_app r (M.put k b) n
    simp only [Mem.app, this, Ups.has, Ups.look, Mem.get_put]
    by_cases h1 : Ups.has r n = true
    · simp [h1]
    · simp only [h1, Bool.or_false, beq_iff_eq]
      by_cases h2 : n = k
      · subst h2; simp
      · simp [h2, Ne.symm h2]

theorem frPut_length (fr : List SV) (d : Option Nat) (x : SV) : (frPut fr d x).length = fr.length := by
  cases d with
  | none => rfl
  | some d => exact frSet_length fr d x
theorem frGet_put (fr : List SV) (d : Option Nat) (x : SV) (t : Nat) (ht : t < fr.length) : frGet (frPut fr d x) t = if d == some t then x else frGet fr t := by
  cases d with
  | none => rfl
  | some d =>
    simp only [frPut, frGet_set]
    by_cases h : t = d
    · subst h; simp [ht]
    · simp [h, Ne.symm h]
theorem frP_length (p : Nat → Bool) : ∀ (l : List Oper) (rs : List Rec) (i : Nat) (fr : List SV), (frP p l rs i fr).length = fr.length
  | o :: l, r :: rs, i, fr => by
    simp only [frP]
    rw [frP_length p l rs]
    split
    · exact frPut_length _ _ _
    · rfl
  | [], _, _, _ => by simp [frP]
  | _ :: _, [], _, _ => by simp [frP]
theorem frP_get (p : Nat → Bool) : ∀ (l : List Oper) (rs : List Rec) (i : Nat) (fr : List SV) (t : Nat), t < fr.length → frGet (frP p l rs i fr) t = (lookF p l rs i t).getD (frGet fr t)
  | o :: l, r :: rs, i, fr, t, ht => by
    simp only [frP, lookF]
    have hl : t < (if p i then frPut fr o.dst r.v else fr).length := by split; rw [frPut_length]; exact ht; exact ht
    rw [frP_get p l rs (i + 1) _ t hl]
    cases lookF p l rs (i + 1) t with
    | some v => rfl
    | none =>
      simp only [Option.getD_none]
      by_cases hp : p i = true
      · simp only [hp, if_true, Bool.true_and]
        rw [frGet_put _ _ _ _ ht]
        split <;> rfl
      · simp only [hp, Bool.false_and]
        rfl
  | [], _, _, _, _, _ => by simp [frP, lookF]
  | _ :: _, [], _, _, _, _ => by simp [frP, lookF]
theorem mP_get (p : Nat → Bool) : ∀ (rs : List Rec) (i : Nat) (M : Mem) (n : Nat), (mP p rs i M).get n = (lookM p rs i n).getD (M.get n)
  | r :: rs, i, M, n => by
    simp only [mP, lookM]
    rw [mP_get p rs (i + 1)]
    cases lookM p rs (i + 1) n with
    | some v => rfl
    | none =>
      simp only [Option.getD_none]
      by_cases hp : p i = true
      · simp only [hp, if_true, Bool.true_and, Mem.get_app]
        split <;> rfl
      · simp only [hp, Bool.false_and]
        rfl
  | [], _, _, _ => rfl

theorem lookF_congr {p q : Nat → Bool} : ∀ (l : List Oper) (rs : List Rec) (i t : Nat), (∀ k o, l[k]? = some o → o.dst = some t → p (i + k) = q (i + k)) → lookF p l rs i t = lookF q l rs i t
  | o :: l, r :: rs, i, t, h => by
    simp only [lookF]
    rw [lookF_congr (p := p) (q := q) l rs (i + 1) t fun k o' hk hd => by have := h (k + 1) o' (by simpa using hk) hd; rwa [show i + (k + 1) = i + 1 + k by omega] at this]
    by_cases hd : o.dst = some t
    · have := h 0 o rfl hd
      simp only [Nat.add_zero] at this
      rw [this]
    · simp [hd]
  | [], _, _, _, _ => by simp [lookF]
  | _ :: _, [], _, _, _ => by simp [lookF]
theorem lookM_congr {p q : Nat → Bool} : ∀ (rs : List Rec) (i n : Nat), (∀ k r, rs[k]? = some r → r.ups.has n = true → p (i + k) = q (i + k)) → lookM p rs i n = lookM q rs i n
  | r :: rs, i, n, h => by
    simp only [lookM]
    rw [lookM_congr (p := p) (q := q) rs (i + 1) n fun k r' hk hd => by have := h (k + 1) r' (by simpa using hk) hd; rwa [show i + (k + 1) = i + 1 + k by omega] at this]
    by_cases hd : r.ups.has n = true
    · have := h 0 r rfl hd
      simp only [Nat.add_zero] at this
      rw [this]
    · simp [hd]
  | [], _, _, _ => rfl
theorem lookF_none {p : Nat → Bool} : ∀ (l : List Oper) (rs : List Rec) (i t : Nat), (∀ k o, l[k]? = some o → o.dst = some t → p (i + k) = false) → lookF p l rs i t = none
  | o :: l, r :: rs, i, t, h => by
    simp only [lookF]
    rw [lookF_none l rs (i + 1) t fun k o' hk hd => by have := h (k + 1) o' (by simpa using hk) hd; rwa [show i + (k + 1) = i + 1 + k by omega] at this]
    by_cases hd : o.dst = some t
    · have := h 0 o rfl hd
      simp only [Nat.add_zero] at this
      simp [this]
    · simp [hd]
  | [], _, _, _, _ => by simp [lookF]
  | _ :: _, [], _, _, _ => by simp [lookF]
theorem lookM_none {p : Nat → Bool} : ∀ (rs : List Rec) (i n : Nat), (∀ k r, rs[k]? = some r → r.ups.has n = true → p (i + k) = false) → lookM p rs i n = none
  | r :: rs, i, n, h => by
    simp only [lookM]
    rw [lookM_none rs (i + 1) n fun k r' hk hd => by have := h (k + 1) r' (by simpa using hk) hd; rwa [show i + (k + 1) = i + 1 + k by omega] at this]
    by_cases hd : r.ups.has n = true
    · have := h 0 r rfl hd
      simp only [Nat.add_zero] at this
      simp [this]
    · simp [hd]
  | [], _, _, _ => rfl
theorem lookF_last {p : Nat → Bool} : ∀ (l : List Oper) (rs : List Rec) (i t k : Nat) (o : Oper) (r : Rec), l[k]? = some o → rs[k]? = some r → o.dst = some t → p (i + k) = true →
    (∀ k' o', k < k' → l[k']? = some o' → o'.dst = some t → p (i + k') = false) → lookF p l rs i t = some r.v
  | o' :: l, r' :: rs, i, t, 0, o, r, hl, hr, hd, hp, h => by
    simp at hl hr
    subst hl hr
    simp only [lookF]
    rw [lookF_none l rs (i + 1) t fun k o'' hk hd' => by have := h (k + 1) o'' (by omega) (by simpa using hk) hd'; rwa [show i + (k + 1) = i + 1 + k by omega] at this]
    simp only [Nat.add_zero] at hp
    simp [hp, hd]
  | o' :: l, r' :: rs, i, t, k + 1, o, r, hl, hr, hd, hp, h => by
    simp only [lookF]
    rw [lookF_last l rs (i + 1) t k o r (by simpa using hl) (by simpa using hr) hd (by rwa [show i + 1 + k = i + (k + 1) by omega]) fun k' o'' hk' hl' hd' => by
      have := h (k' + 1) o'' (by omega) (by simpa using hl') hd'; rwa [show i + (k' + 1) = i + 1 + k' by omega] at this]
  | [], _, _, _, _, _, _, hl, _, _, _, _ => by simp at hl
  | _ :: _, [], _, _, _, _, _, _, hr, _, _, _ => by simp at hr
theorem lookM_last {p : Nat → Bool} : ∀ (rs : List Rec) (i n k : Nat) (r : Rec), rs[k]? = some r → r.ups.has n = true → p (i + k) = true →
    (∀ k' r', k < k' → rs[k']? = some r' → r'.ups.has n = true → p (i + k') = false) → lookM p rs i n = some (r.ups.look n)
  | r' :: rs, i, n, 0, r, hr, hd, hp, h => by
    simp at hr
    subst hr
    simp only [lookM]
    rw [lookM_none rs (i + 1) n fun k o'' hk hd' => by have := h (k + 1) o'' (by omega) (by simpa using hk) hd'; rwa [show i + (k + 1) = i + 1 + k by omega] at this]
    simp only [Nat.add_zero] at hp
    simp [hp, hd]
  | r' :: rs, i, n, k + 1, r, hr, hd, hp, h => by
    simp only [lookM]
    rw [lookM_last rs (i + 1) n k r (by simpa using hr) hd (by rwa [show i + 1 + k = i + (k + 1) by omega]) fun k' o'' hk' hl' hd' => by
      have := h (k' + 1) o'' (by omega) (by simpa using hl') hd'; rwa [show i + (k' + 1) = i + 1 + k' by omega] at this]
  | [], _, _, _, _, hr, _, _, _ => by simp at hr

/-! ### the order of the edges -/
def befOne (acc : List Nat) (o : Oper) : Nat := o.after.toList.foldl (fun s e => if Region.binds .any e then s ||| (2 ^ e.on ||| acc.getD e.on 0) else s) 0
def bef : List Oper → List Nat → List Nat
  | [], acc => acc
  | o :: l, acc => bef l (acc ++ [befOne acc o])

theorem befOne_bit {acc : List Nat} {o : Oper} {i : Nat} (h : (befOne acc o).testBit i = true) : ∃ e ∈ o.after.toList, Region.binds .any e = true ∧ (e.on = i ∨ (acc.getD e.on 0).testBit i = true) := by
  have key : ∀ (es : List Edge) (s : Nat), (es.foldl (fun s e => if Region.binds .any e then s ||| (2 ^ e.on ||| acc.getD e.on 0) else s) s).testBit i = true →
      s.testBit i = true ∨ ∃ e ∈ es, Region.binds .any e = true ∧ (e.on = i ∨ (acc.getD e.on 0).testBit i = true) := by
    intro es
    induction es with
    | nil => exact fun s h => .inl h
    | cons e es ih =>
      intro s h
      rw [List.foldl_cons] at h
      rcases ih _ h with h | ⟨e', he', h'⟩
      · split at h
        · rename_i hb
          rw [Nat.testBit_or, Nat.testBit_or] at h
          simp only [Bool.or_eq_true] at h
          rcases h with h | h | h
          · exact .inl h
          · refine .inr ⟨e, by simp, hb, .inl ?_⟩
            rw [Nat.testBit_two_pow] at h
            simpa using h
          · exact .inr ⟨e, by simp, hb, .inr h⟩
        · exact .inl h
      · exact .inr ⟨e', by simp [he'], h'⟩
  rcases key _ _ h with h | h
  · simp at h
  · exact h

theorem bef_get : ∀ (l : List Oper) (acc : List Nat) (j : Nat), j < acc.length → (bef l acc).getD j 0 = acc.getD j 0
  | [], acc, j, _ => rfl
  | o :: l, acc, j, h => by
    simp only [bef]
    rw [bef_get l _ j (by simp; omega)]
    simp [List.getD, List.getElem?_append_left h]
theorem bef_new : ∀ (l : List Oper) (acc : List Nat) (k : Nat) (o : Oper), l[k]? = some o → ∃ acc', (bef l acc).getD (acc.length + k) 0 = befOne acc' o ∧ ∀ j, acc'.getD j 0 = if j < acc.length + k then (bef l acc).getD j 0 else 0
  | o' :: l, acc, 0, o, h => by
    simp at h
    subst h
    refine ⟨acc, ?_, fun j => ?_⟩
    · simp only [bef, Nat.add_zero]
      rw [bef_get l _ _ (by simp)]
      simp [List.getD]
    · split
      · rename_i hj
        simp only [bef]
        rw [bef_get l _ j (by simp; omega)]
        simp only [Nat.add_zero] at hj
        simp [List.getD, List.getElem?_append_left hj]
      · rename_i hj
        simp only [Nat.add_zero] at hj
        simp [List.getD, List.getElem?_eq_none (Nat.not_lt.1 hj)]
  | o' :: l, acc, k + 1, o, h => by
    obtain ⟨acc', h1, h2⟩ := bef_new l (acc ++ [befOne acc o']) k o (by simpa using h)
    simp only [List.length_append, List.length_singleton] at h1 h2
    refine ⟨acc', ?_, fun j => ?_⟩
    · simp only [bef]; rw [← h1]; congr 1; omega
    · rw [h2 j, show acc.length + 1 + k = acc.length + (k + 1) by omega]
      rfl
  | [], _, _, _, h => by simp at h

/-- closed under the edges -/
def Closed (L : List Oper) (S : Nat → Bool) : Prop := ∀ j o, L[j]? = some o → S j = true → ∀ e ∈ o.after.toList, Region.binds .any e = true → S e.on = true

theorem bef_step {L : List Oper} {j i : Nat} {o : Oper} (ho : L[j]? = some o) (h : ((bef L []).getD j 0).testBit i = true) :
    ∃ e ∈ o.after.toList, Region.binds .any e = true ∧ (e.on = i ∨ (e.on < j ∧ ((bef L []).getD e.on 0).testBit i = true)) := by
  obtain ⟨acc', h1, h2⟩ := bef_new L [] j o ho
  simp only [List.length_nil, Nat.zero_add] at h1 h2
  rw [h1] at h
  obtain ⟨e, he, hb, h⟩ := befOne_bit h
  refine ⟨e, he, hb, ?_⟩
  rcases h with h | h
  · exact .inl h
  · rw [h2] at h
    split at h
    · rename_i hlt; exact .inr ⟨hlt, h⟩
    · simp at h

theorem closed_bef {L : List Oper} {S : Nat → Bool} (hS : Closed L S) : ∀ (j : Nat) (i : Nat), S j = true → ((bef L []).getD j 0).testBit i = true → S i = true := by
  intro j
  induction j using Nat.strongRecOn with
  | _ j ih =>
    intro i hj h
    cases ho : L[j]? with
    | none =>
      exfalso
      have : ∀ (l : List Oper) (acc : List Nat), (bef l acc).length = acc.length + l.length := by
        intro l
        induction l with
        | nil => intro acc; rfl
        | cons o l ih => intro acc; simp only [bef]; rw [ih]; simp; omega
      have hlen := this L []
      have hnone : (bef L [])[j]? = none := by
        rw [List.getElem?_eq_none_iff] at ho ⊢
        simp at hlen; omega
      simp [List.getD, hnone] at h
    | some o =>
      obtain ⟨e, he, hb, h⟩ := bef_step ho h
      have hon := hS j o ho hj e he hb
      rcases h with rfl | ⟨hlt, h⟩
      · exact hon
      · exact ih e.on hlt i hon h

/-! ### the check -/
def slotConf (ops : Array Oper) (o o' : Oper) : Bool :=
  (match o.dst with | some d => (o'.looksAt ops).contains d || o'.dst == some d | none => false) || (match o'.dst with | some d => (o.looksAt ops).contains d | none => false)
def nameConf (r r' : Rec) : Bool := (r.ups.any fun u => r'.fp.contains u.1 || r'.ups.has u.1) || r'.ups.any fun u => r.fp.contains u.1
def okRow (ops : Array Oper) (b : Nat) (o' : Oper) (r' : Rec) : List Oper → List Rec → Nat → Nat → Bool
  | o :: l, r :: rs, i, j => if i < j then (!(slotConf ops o o' || nameConf r r') || b.testBit i) && okRow ops b o' r' l rs (i + 1) j else true
  | _, _, _, _ => true
def okAll (ops : Array Oper) (L : List Oper) (R : List Rec) (B : List Nat) : List Oper → List Rec → Nat → Bool
  | o :: l, r :: rs, j => o.after.toList.all (fun e => !Region.binds .any e || Nat.blt e.on j) && okRow ops (B.getD j 0) o r L R 0 j && okAll ops L R B l rs (j + 1)
  | _, _, _ => true
def okOrder (ops : Array Oper) (rs : List Rec) : Bool := okAll ops ops.toList rs (bef ops.toList []) ops.toList rs 0

theorem okRow_get {ops : Array Oper} {b : Nat} {o' : Oper} {r' : Rec} : ∀ (l : List Oper) (rs : List Rec) (i j k : Nat) (o : Oper) (r : Rec), okRow ops b o' r' l rs i j = true → l[k]? = some o → rs[k]? = some r → i + k < j →
    slotConf ops o o' = true ∨ nameConf r r' = true → b.testBit (i + k) = true
  | o1 :: l, r1 :: rs, i, j, 0, o, r, h, hl, hr, hlt, hc => by
    simp at hl hr
    subst hl hr
    simp only [okRow] at h
    rw [if_pos (by omega)] at h
    simp only [Bool.and_eq_true, Bool.or_eq_true, Bool.not_eq_true'] at h
    rcases h.1 with h' | h'
    · rcases hc with hc | hc <;> simp [hc] at h'
    · simpa using h'
  | o1 :: l, r1 :: rs, i, j, k + 1, o, r, h, hl, hr, hlt, hc => by
    simp only [okRow] at h
    rw [if_pos (by omega)] at h
    simp only [Bool.and_eq_true] at h
    have := okRow_get l rs (i + 1) j k o r h.2 (by simpa using hl) (by simpa using hr) (by omega) hc
    rwa [show i + (k + 1) = i + 1 + k by omega]
  | [], _, _, _, _, _, _, _, hl, _, _, _ => by simp at hl
  | _ :: _, [], _, _, _, _, _, _, _, hr, _, _ => by simp at hr
theorem okAll_get {ops : Array Oper} {L : List Oper} {R : List Rec} {B : List Nat} : ∀ (l : List Oper) (rs : List Rec) (j k : Nat) (o : Oper) (r : Rec), okAll ops L R B l rs j = true → l[k]? = some o → rs[k]? = some r →
    (∀ e ∈ o.after.toList, Region.binds .any e = true → e.on < j + k) ∧ okRow ops (B.getD (j + k) 0) o r L R 0 (j + k) = true
  | o1 :: l, r1 :: rs, j, 0, o, r, h, hl, hr => by
    simp at hl hr
    subst hl hr
    simp only [okAll, Bool.and_eq_true] at h
    refine ⟨fun e he hb => ?_, h.1.2⟩
    have := List.all_eq_true.1 h.1.1 e he
    simp only [hb, Bool.not_true, Bool.false_or] at this
    simpa [Nat.blt_eq] using this
  | o1 :: l, r1 :: rs, j, k + 1, o, r, h, hl, hr => by
    simp only [okAll, Bool.and_eq_true] at h
    have := okAll_get l rs (j + 1) k o r h.2 (by simpa using hl) (by simpa using hr)
    rwa [show j + 1 + k = j + (k + 1) by omega] at this
  | [], _, _, _, _, _, _, hl, _ => by simp at hl
  | _ :: _, [], _, _, _, _, _, _, hr => by simp at hr

/-! ### the theorem -/
/-- what the text's order says of one operation -/
structure Step (P : Program) (ops : Array Oper) (o : Oper) (r : Rec) (fr : List SV) (M : Mem) : Prop where
  want : wantA ops o fr = some r.go
  run : r.go = true → SemOp P o fr (res M r.fp) r.v r.ups
  ok : r.go = true → okUps (res M r.fp) M.length r.ups = true
  skip : r.go = false → r.v = .t [] ∧ r.ups = []

theorem text_steps {P : Program} {ops : Array Oper} : ∀ (l : List Oper) (fr : List SV) (M : Mem) (rs : List Rec) (fr' : List SV) (M' : Mem), Text P ops true l fr M rs fr' M' →
    rs.length = l.length ∧ fr' = frP (fun _ => true) l rs 0 fr ∧ M' = mP (fun _ => true) rs 0 M ∧
    ∀ k o r, l[k]? = some o → rs[k]? = some r → Step P ops o r (frP (fun j => decide (j < k)) l rs 0 fr) (mP (fun j => decide (j < k)) rs 0 M)
  | [], fr, M, [], fr', M', h => by
    obtain ⟨rfl, rfl⟩ := h
    exact ⟨rfl, rfl, rfl, fun k o r hk => by simp at hk⟩
  | o :: l, fr, M, r :: rs, fr', M', h => by
    obtain ⟨hw, hr, ht⟩ := h
    obtain ⟨h1, h2, h3, h4⟩ := text_steps l _ _ rs fr' M' ht
    have shiftF : ∀ (p q : Nat → Bool) (l : List Oper) (rs : List Rec) (i j : Nat) (fr : List SV), (∀ k, p (i + k) = q (j + k)) → frP p l rs i fr = frP q l rs j fr := by
      intro p q l
      induction l with
      | nil => intro rs i j fr _; simp [frP]
      | cons o l ih =>
        intro rs i j fr hpq
        cases rs with
        | nil => simp [frP]
        | cons r rs =>
          simp only [frP]
          have h0 := hpq 0
          simp only [Nat.add_zero] at h0
          rw [h0]
          exact ih rs (i + 1) (j + 1) _ fun k => by have := hpq (k + 1); rwa [show i + (k + 1) = i + 1 + k by omega, show j + (k + 1) = j + 1 + k by omega] at this
    have shiftM : ∀ (p q : Nat → Bool) (rs : List Rec) (i j : Nat) (M : Mem), (∀ k, p (i + k) = q (j + k)) → mP p rs i M = mP q rs j M := by
      intro p q rs
      induction rs with
      | nil => intro i j M _; rfl
      | cons r rs ih =>
        intro i j M hpq
        simp only [mP]
        have h0 := hpq 0
        simp only [Nat.add_zero] at h0
        rw [h0]
        exact ih (i + 1) (j + 1) _ fun k => by have := hpq (k + 1); rwa [show i + (k + 1) = i + 1 + k by omega, show j + (k + 1) = j + 1 + k by omega] at this
    refine ⟨by simp [h1], ?_, ?_, fun k o' r' hk hrk => ?_⟩
    · rw [h2]; simp only [frP, if_true]; exact shiftF _ _ l rs _ _ _ fun _ => rfl
    · rw [h3]; simp only [mP, if_true]; exact shiftM _ _ rs _ _ _ fun _ => rfl
    · cases k with
      | zero =>
        simp at hk hrk
        subst hk hrk
        have e1 : frP (fun j => decide (j < 0)) (o :: l) (r :: rs) 0 fr = fr := by
          have : ∀ (l : List Oper) (rs : List Rec) (i : Nat) (fr : List SV), frP (fun j => decide (j < 0)) l rs i fr = fr := by
            intro l
            induction l with
            | nil => intro rs i fr; simp [frP]
            | cons o l ih => intro rs i fr; cases rs with
              | nil => simp [frP]
              | cons r rs => simp only [frP, Nat.not_lt_zero, decide_false, Bool.false_eq_true, if_false]; exact ih rs _ fr
          exact this _ _ _ _
        have e2 : mP (fun j => decide (j < 0)) (r :: rs) 0 M = M := by
          have : ∀ (rs : List Rec) (i : Nat) (M : Mem), mP (fun j => decide (j < 0)) rs i M = M := by
            intro rs
            induction rs with
            | nil => intro i M; rfl
            | cons r rs ih => intro i M; simp only [mP, Nat.not_lt_zero, decide_false, Bool.false_eq_true, if_false]; exact ih _ M
          exact this _ _ _
        rw [e1, e2]
        refine ⟨hw, fun hg => ?_, fun hg => ?_, fun hg => ?_⟩
        · rw [hg] at hr; exact hr.1
        · rw [hg] at hr; exact hr.2
        · rw [hg] at hr; exact hr
      | succ k =>
        have := h4 k o' r' (by simpa using hk) (by simpa using hrk)
        have e1 : frP (fun j => decide (j < k + 1)) (o :: l) (r :: rs) 0 fr = frP (fun j => decide (j < k)) l rs 0 (frPut fr o.dst r.v) := by
          simp only [frP, Nat.zero_lt_succ, decide_true, if_true]
          exact shiftF _ _ l rs _ _ _ fun q => by simp; omega
        have e2 : mP (fun j => decide (j < k + 1)) (r :: rs) 0 M = mP (fun j => decide (j < k)) rs 0 (M.app r.ups) := by
          simp only [mP, Nat.zero_lt_succ, decide_true, if_true]
          exact shiftM _ _ rs _ _ _ fun q => by simp; omega
        rw [e1, e2]
        exact this
  | [], _, _, _ :: _, _, _, h => h.elim
  | _ :: _, _, _, [], _, _, h => h.elim

theorem St.congr {W : World} {A : Nat → Prop} {β : Bet} {M M' : Mem} {w : World} (h : St W A β M w) (he : ∀ n, M'.get n = M.get n) : St W A β M' w :=
  ⟨h.os, h.tape, h.output, h.size, h.frame, fun n k hk => h.names n k (by rw [← he]; exact hk), fun n n' k k' m m' hne hk hk' => h.sep n n' k k' m m' hne (by rw [← he]; exact hk) (by rw [← he]; exact hk'), fun n k m hk => h.perm n k m (by rw [← he]; exact hk)⟩

theorem mP_length (p : Nat → Bool) : ∀ (rs : List Rec) (i : Nat) (M : Mem), M.length ≤ (mP p rs i M).length
  | [], _, _ => Nat.le_refl _
  | r :: rs, i, M => by
    simp only [mP]
    refine Nat.le_trans ?_ (mP_length p rs (i + 1) _)
    split
    · exact (Mem.app_length r.ups M).1
    · exact Nat.le_refl _
theorem mP_has {p : Nat → Bool} : ∀ (rs : List Rec) (i : Nat) (M : Mem) (k : Nat) (r : Rec) (n : Nat), rs[k]? = some r → p (i + k) = true → r.ups.has n = true → n < (mP p rs i M).length
  | [], _, _, _, _, _, h, _, _ => by simp at h
  | r' :: rs, i, M, 0, r, n, h, hp, hn => by
    simp at h
    subst h
    simp only [Nat.add_zero] at hp
    simp only [mP, hp, if_true]
    exact Nat.lt_of_lt_of_le ((Mem.app_length _ M).2 n hn) (mP_length p rs _ _)
  | r' :: rs, i, M, k + 1, r, n, h, hp, hn => by
    simp only [mP]
    exact mP_has rs (i + 1) _ k r n (by simpa using h) (by rwa [show i + 1 + k = i + (k + 1) by omega]) hn

def sOf (listed : Array Bool) (j : Nat) : Bool := listed.getD j false

theorem sOf_set {listed : Array Bool} {i j : Nat} (hi : i < listed.size) : sOf (listed.setIfInBounds i true) j = if j = i then true else sOf listed j := by
  unfold sOf
  by_cases h : j = i
  · subst h; simp [hi]
  · rw [if_neg h]
    simp [Array.getElem?_setIfInBounds_ne (Ne.symm h)]

theorem Fr.congr {β : Bet} {tmps : Array Value} {fr fr' : List SV} (h : Fr β tmps fr) (hl : fr'.length = fr.length) (he : ∀ t, t < fr.length → frGet fr' t = frGet fr t) : Fr β tmps fr' := by
  have hout : ∀ (l : List SV) (t : Nat), l.length ≤ t → frGet l t = .o (.c .u) := by
    intro l
    induction l with
    | nil => intro t _; rfl
    | cons x l ih => intro t ht; cases t with
      | zero => simp at ht
      | succ t => exact ih t (by simpa using ht)
  refine ⟨by rw [h.len, hl], fun t => ?_⟩
  by_cases ht : t < fr.length
  · rw [he t ht]; exact h.den t
  · rw [hout fr' t (by omega)]; exact trivial

structure Inv (ops : Array Oper) (W : World) (A : Nat → Prop) (fr : List SV) (M : Mem) (rs : List Rec) (ds : List Deferred) (β0 : Bet) (listed : Array Bool) (β : Bet) (a : Act) (w : World) : Prop where
  size : listed.size = ops.size
  closed : Closed ops.toList (sOf listed)
  le : β0.le β
  st : St W A β (mP (sOf listed) rs 0 M) w
  fr : Fr β a.tmps (frP (sOf listed) ops.toList rs 0 fr)
  dom : ∀ n, β0 n = none → β n ≠ none → ∃ j r, rs[j]? = some r ∧ sOf listed j = true ∧ r.ups.has n = true
  ds : a.defers = ds

section
variable {P : Program} {ops : Array Oper} {W : World} {A : Nat → Prop} {fr : List SV} {M : Mem} {rs : List Rec} {ds : List Deferred} {β0 : Bet}
variable {mx : Nat} (hlen : rs.length = ops.toList.length) (hok : okOrder ops rs = true) (hT : Top β0 M.length)
  (hsteps : ∀ k o r, k < mx → ops.toList[k]? = some o → rs[k]? = some r → Step P ops o r (frP (fun j => decide (j < k)) ops.toList rs 0 fr) (mP (fun j => decide (j < k)) rs 0 M))
include hlen hok hT hsteps

theorem region_step {Q : Exit → Act → World → Prop} {listed : Array Bool} {β : Bet} {a : Act} {w : World} (inv : Inv ops W A fr M rs ds β0 listed β a w) {i : Nat} (hi : i ∈ Region.ready .any ops listed) (him : i < mx) :
    wpOp P ops Q i (fun a' w' => ∃ β', Inv ops W A fr M rs ds β0 (listed.setIfInBounds i true) β' a' w') a w := by
  obtain ⟨hnl, o, ho, hall⟩ := mem_ready.1 hi
  have hoL : ops.toList[i]? = some o := by simpa using ho
  have hisz : i < ops.size := (Array.getElem?_eq_some_iff.1 ho).1
  have hil : i < listed.size := by rw [inv.size]; exact hisz
  have hSi : sOf listed i = false := by
    unfold sOf
    simp [hil] at hnl ⊢
    exact hnl
  obtain ⟨r, hr⟩ : ∃ r, rs[i]? = some r := by
    have : i < rs.length := by rw [hlen]; simpa using hisz
    exact ⟨rs[i], List.getElem?_eq_getElem this⟩
  have st := hsteps i o r him hoL hr
  obtain ⟨_, hrow⟩ := okAll_get _ _ 0 i o r hok hoL hr
  simp only [Nat.zero_add] at hrow
  have hpre : ∀ k, ((bef ops.toList []).getD i 0).testBit k = true → sOf listed k = true := by
    intro k hk
    obtain ⟨e, he, hb, h⟩ := bef_step hoL hk
    have hon : sOf listed e.on = true := hall e (by simpa using he) hb
    rcases h with rfl | ⟨_, h⟩
    · exact hon
    · exact closed_bef inv.closed e.on k hon h
  have hpost : ∀ k o' r', ops.toList[k]? = some o' → rs[k]? = some r' → i < k → (slotConf ops o o' = true ∨ nameConf r r' = true) → sOf listed k = false := by
    intro k o' r' hk hrk hlt hc
    obtain ⟨_, hrow'⟩ := okAll_get _ _ 0 k o' r' hok hk hrk
    simp only [Nat.zero_add] at hrow'
    have := okRow_get _ _ 0 k i o r hrow' hoL hr (by omega) hc
    simp only [Nat.zero_add] at this
    cases hs : sOf listed k with
    | false => rfl
    | true =>
      have := closed_bef inv.closed k i hs this
      rw [hSi] at this
      cases this
  have hbefore : ∀ k o' r', ops.toList[k]? = some o' → rs[k]? = some r' → k < i → (slotConf ops o' o = true ∨ nameConf r' r = true) → sOf listed k = true := by
    intro k o' r' hk hrk hlt hc
    have := okRow_get _ _ 0 i k o' r' hrow hk hrk (by omega) hc
    simp only [Nat.zero_add] at this
    exact hpre k this
  have hrec : ∀ k o', ops.toList[k]? = some o' → ∃ r', rs[k]? = some r' := fun k o' hk => by
    have h1 := (List.getElem?_eq_some_iff.1 hk).1
    exact ⟨rs[k]'(by omega), List.getElem?_eq_getElem _⟩
  have hop : ∀ k r', rs[k]? = some r' → ∃ o', ops.toList[k]? = some o' := fun k r' hk => by
    have h1 := (List.getElem?_eq_some_iff.1 hk).1
    exact ⟨ops.toList[k]'(by omega), List.getElem?_eq_getElem _⟩
  -- slots that the operation looks at or writes
  have slotAgree : ∀ t, (t ∈ o.looksAt ops ∨ o.dst = some t) → ∀ k o', ops.toList[k]? = some o' → o'.dst = some t → k ≠ i → sOf listed k = decide (k < i) := by
    intro t ht k o' hk hd hne
    obtain ⟨r', hr'⟩ := hrec k o' hk
    rcases Nat.lt_or_gt_of_ne hne with hlt | hgt
    · rw [hbefore k o' r' hk hr' hlt (.inl (by
        simp only [slotConf, hd]
        rcases ht with ht | ht
        · simp [ht]
        · simp [ht]))]
      simp [hlt]
    · rw [hpost k o' r' hk hr' hgt (.inl (by
        simp only [slotConf, hd]
        rcases ht with ht | ht
        · simp [ht]
        · simp [ht]))]
      simp; omega
  have nameAgree : ∀ n, (r.fp.contains n = true ∨ r.ups.has n = true) → ∀ k r', rs[k]? = some r' → r'.ups.has n = true → k ≠ i → sOf listed k = decide (k < i) := by
    intro n hn k r' hk hd hne
    obtain ⟨o', ho'⟩ := hop k r' hk
    have hmem : ∀ (u : Ups), u.has n = true → ∃ b, (n, b) ∈ u := by
      intro u
      induction u with
      | nil => intro h; cases h
      | cons x u ih =>
        obtain ⟨m, b⟩ := x
        intro h
        simp only [Ups.has, Bool.or_eq_true, beq_iff_eq] at h
        rcases h with rfl | h
        · exact ⟨b, by simp⟩
        · obtain ⟨b', hb'⟩ := ih h; exact ⟨b', by simp [hb']⟩
    obtain ⟨b', hb'⟩ := hmem _ hd
    rcases Nat.lt_or_gt_of_ne hne with hlt | hgt
    · rw [hbefore k o' r' ho' hk hlt (.inr (by
        simp only [nameConf, Bool.or_eq_true, List.any_eq_true]
        exact .inl ⟨_, hb', hn⟩))]
      simp [hlt]
    · rw [hpost k o' r' ho' hk hgt (.inr (by
        simp only [nameConf, Bool.or_eq_true, List.any_eq_true]
        rcases hn with hn | hn
        · exact .inr ⟨_, hb', hn⟩
        · obtain ⟨b, hb⟩ := hmem _ hn
          exact .inl ⟨_, hb, .inr hd⟩))]
      simp; omega
  have hlook : ∀ t ∈ o.looksAt ops, frGet (frP (sOf listed) ops.toList rs 0 fr) t = frGet (frP (fun j => decide (j < i)) ops.toList rs 0 fr) t := by
    intro t ht
    by_cases htl : t < fr.length
    · rw [frP_get _ _ _ _ _ _ htl, frP_get _ _ _ _ _ _ htl]
      rw [lookF_congr (p := sOf listed) (q := fun j => decide (j < i)) ops.toList rs 0 t fun k o' hk hd => by
        simp only [Nat.zero_add]
        by_cases hki : k = i
        · subst hki; rw [hSi]; simp
        · exact slotAgree t (.inl ht) k o' hk hd hki]
    · have hout : ∀ (l : List SV) (t : Nat), l.length ≤ t → frGet l t = .o (.c .u) := by
        intro l
        induction l with
        | nil => intro t _; rfl
        | cons x l ih => intro t ht; cases t with
          | zero => simp at ht
          | succ t => exact ih t (by simpa using ht)
      rw [hout (frP (sOf listed) ops.toList rs 0 fr) t (by rw [frP_length]; exact Nat.le_of_not_lt htl), hout (frP (fun j => decide (j < i)) ops.toList rs 0 fr) t (by rw [frP_length]; exact Nat.le_of_not_lt htl)]
  have hwanted : Region.wanted o (yielded ops a.tmps) = r.go := wanted_of (β := β) st.want fun d hd => by rw [← hlook d hd]; exact inv.fr.den d
  have hclosed : Closed ops.toList (sOf (listed.setIfInBounds i true)) := by
    intro j oj hj hs e he hb
    rw [sOf_set hil] at hs ⊢
    split
    · rfl
    · split at hs
      · rename_i hji
        subst hji
        rw [hoL] at hj
        cases hj
        exact hall e (by simpa using he) hb
      · exact inv.closed j oj hj hs e he hb
  have hfrS : ∀ t, t < fr.length → frGet (frP (sOf (listed.setIfInBounds i true)) ops.toList rs 0 fr) t = frGet (frPut (frP (sOf listed) ops.toList rs 0 fr) o.dst r.v) t := by
    intro t ht
    rw [frGet_put _ _ _ _ (by rw [frP_length]; exact ht), frP_get _ _ _ _ _ _ ht, frP_get _ _ _ _ _ _ ht]
    by_cases hd : o.dst = some t
    · rw [lookF_last ops.toList rs 0 t i o r hoL hr hd (by simp [sOf_set hil]) fun k' o' hlt hk' hd' => by
        simp only [Nat.zero_add]
        rw [sOf_set hil, if_neg (by omega), slotAgree t (.inr hd) k' o' hk' hd' (by omega)]
        simp; omega]
      simp [hd]
    · rw [lookF_congr (p := sOf (listed.setIfInBounds i true)) (q := sOf listed) ops.toList rs 0 t fun k o' hk hd' => by
        simp only [Nat.zero_add]
        rw [sOf_set hil, if_neg (fun e => by subst e; rw [hoL] at hk; cases hk; exact hd hd')]]
      simp [hd]
  have hMS : ∀ n, (mP (sOf (listed.setIfInBounds i true)) rs 0 M).get n = ((mP (sOf listed) rs 0 M).app r.ups).get n := by
    intro n
    rw [Mem.get_app, mP_get, mP_get]
    by_cases hn : r.ups.has n = true
    · rw [lookM_last rs 0 n i r hr hn (by simp [sOf_set hil]) fun k' r' hlt hk' hd' => by
        simp only [Nat.zero_add]
        rw [sOf_set hil, if_neg (by omega), nameAgree n (.inr hn) k' r' hk' hd' (by omega)]
        simp; omega]
      simp [hn]
    · rw [lookM_congr (p := sOf (listed.setIfInBounds i true)) (q := sOf listed) rs 0 n fun k r' hk hd' => by
        simp only [Nat.zero_add]
        rw [sOf_set hil, if_neg (fun e => by subst e; rw [hr] at hk; cases hk; exact hn hd')]]
      simp [hn]
  have hput : ∀ (x : Act) (d : Option Tmp) (v : Value), (x.put d v).defers = x.defers := fun x d v => by cases d <;> rfl
  unfold wpOp
  simp only [ho]
  rw [hwanted]
  cases hg : r.go with
  | false =>
    obtain ⟨hv, hu⟩ := st.skip hg
    simp only [Bool.false_eq_true, if_false]
    refine ⟨β, by simpa using inv.size, hclosed, inv.le, inv.st.congr (fun n => by rw [hMS, hu]; rfl), ?_, fun n h1 h2 => ?_, by rw [hput]; exact inv.ds⟩
    · refine (inv.fr.put o.dst (x := .t []) ⟨[], rfl, trivial⟩).congr (by rw [frP_length, frPut_length, frP_length]) fun t ht => ?_
      rw [frPut_length, frP_length] at ht
      rw [hfrS t ht, hv]
    · obtain ⟨j, r', h3, h4, h5⟩ := inv.dom n h1 h2
      exact ⟨j, r', h3, by rw [sOf_set hil]; split; rfl; exact h4, h5⟩
  | true =>
    simp only [if_true]
    have hsame : ∀ n, (r.fp.contains n = true ∨ r.ups.has n = true) → (mP (sOf listed) rs 0 M).get n = (mP (fun j => decide (j < i)) rs 0 M).get n := by
      intro n hn
      rw [mP_get, mP_get, lookM_congr (p := sOf listed) (q := fun j => decide (j < i)) rs 0 n fun k r' hk hd => by
        simp only [Nat.zero_add]
        by_cases hki : k = i
        · subst hki; rw [hSi]; simp
        · exact nameAgree n hn k r' hk hd hki]
    refine .inl (st.run hg W A β (mP (sOf listed) rs 0 M) w a _ Q inv.st (fun x hx => ?_) (fun n k hk => ?_) (fun n hn hrn => ?_) fun v' w' β' hle hdom hSt' hd => ?_)
    · -- operands
      have key : evO (frP (sOf listed) ops.toList rs 0 fr) x = evO (frP (fun j => decide (j < i)) ops.toList rs 0 fr) x := by
        cases x with
        | tmp t =>
          simp only [evO]
          refine hlook t ?_
          simp only [Oper.looksAt, List.mem_append, List.mem_filterMap]
          exact .inl ⟨.tmp t, by simpa using hx, rfl⟩
        | _ => rfl
      rw [← key]
      exact inv.fr.ev x
    · rw [res_get] at hk
      split at hk
      · rename_i hc
        rw [hsame n (.inl hc)]; exact hk
      · cases hk
    · -- fresh names
      have hle : (mP (fun j => decide (j < i)) rs 0 M).length ≤ n := by
        have h1 := st.ok hg
        have : ∃ b, (n, b) ∈ r.ups := by
          have hmem : ∀ (u : Ups), u.has n = true → ∃ b, (n, b) ∈ u := by
            intro u
            induction u with
            | nil => intro h; cases h
            | cons x u ih =>
              obtain ⟨m, b⟩ := x
              intro h
              simp only [Ups.has, Bool.or_eq_true, beq_iff_eq] at h
              rcases h with rfl | h
              · exact ⟨b, by simp⟩
              · obtain ⟨b', hb'⟩ := ih h; exact ⟨b', by simp [hb']⟩
          exact hmem _ hn
        obtain ⟨b, hb⟩ := this
        have h2 := List.all_eq_true.1 h1 _ hb
        simp only [hrn, Option.isSome_none, Bool.false_or] at h2
        exact Nat.le_of_ble_eq_true h2
      refine ⟨?_, by rw [hsame n (.inr hn)]; exact Mem.get_ge _ _ hle⟩
      cases hb : β n with
      | none => rfl
      | some m =>
        exfalso
        have h0 : β0 n = none := hT n (Nat.le_trans (mP_length _ rs 0 M) hle)
        obtain ⟨j, r', h3, h4, h5⟩ := inv.dom n h0 (by rw [hb]; simp)
        by_cases hji : j = i
        · subst hji; rw [hSi] at h4; cases h4
        · have hj := nameAgree n (.inr hn) j r' h3 h5 hji
          rw [h4] at hj
          have := mP_has (p := fun j => decide (j < i)) rs 0 M j r' n h3 (by simp only [Nat.zero_add]; exact hj.symm) h5
          omega
    · refine ⟨β', by simpa using inv.size, hclosed, Bet.le_trans inv.le hle, hSt'.congr hMS, ?_, fun n h1 h2 => ?_, by rw [hput]; exact inv.ds⟩
      · refine ((inv.fr.mono hle).put o.dst hd).congr (by rw [frP_length, frPut_length, frP_length]) fun t ht => ?_
        rw [frPut_length, frP_length] at ht
        exact hfrS t ht
      · by_cases hb : β n = none
        · exact ⟨i, r, hr, by rw [sOf_set hil]; simp, hdom n hb h2⟩
        · obtain ⟨j, r', h3, h4, h5⟩ := inv.dom n h1 hb
          exact ⟨j, r', h3, by rw [sOf_set hil]; split; rfl; exact h4, h5⟩
end

theorem all_listed {ops : Array Oper} {rs : List Rec} (hlen : rs.length = ops.toList.length) (hok : okOrder ops rs = true) {listed : Array Bool} (hsz : listed.size = ops.size) (h : Region.ready .any ops listed = []) :
    ∀ i, i < ops.size → sOf listed i = true := by
  intro i
  induction i using Nat.strongRecOn with
  | _ i ih =>
    intro hi
    cases hs : sOf listed i with
    | true => rfl
    | false =>
      exfalso
      have ho : ops[i]? = some ops[i] := Array.getElem?_eq_getElem hi
      have hrl : i < rs.length := by rw [hlen]; simpa using hi
      obtain ⟨hedge, _⟩ := okAll_get _ _ 0 i ops[i] rs[i] hok (by simp [hi]) (List.getElem?_eq_getElem hrl)
      have : i ∈ Region.ready .any ops listed := mem_ready.2 ⟨by
        unfold sOf at hs
        have : i < listed.size := by omega
        simp [this] at hs ⊢
        exact hs, ops[i], ho, fun e he hb => ih e.on (by have := hedge e (by simpa using he) hb; omega) (by have := hedge e (by simpa using he) hb; omega)⟩
      rw [h] at this
      cases this

/-- A REGION THAT DRAWS ITS ORDER -/
theorem region_draw {P : Program} {ops : Array Oper} {id : Nat} {Q : Exit → Act → World → Prop} {W : World} {A : Nat → Prop} {fr : List SV} {M : Mem} {rs : List Rec} {fr' : List SV} {M' : Mem} {β0 : Bet} {a : Act} {w : World} (hm : P.follows .mixedOrders = true)
    (ht : Text P ops true ops.toList fr M rs fr' M') (hok : okOrder ops rs = true) (hT : Top β0 M.length) (hSt : St W A β0 M w) (hF : Fr β0 a.tmps fr)
    (hQ : ∀ β' a' w', β0.le β' → St W A β' M' w' → Fr β' a'.tmps fr' → Top β' M'.length → a'.defers = a.defers → Q .normal a' w') : (Code.region id ops true).wp P Q a w := by
  obtain ⟨hlen, hfr', hM', hsteps⟩ := text_steps _ _ _ _ _ _ ht
  have fin : ∀ (listed : Array Bool) (β : Bet) (a1 : Act) (w1 : World), Inv ops W A fr M rs a.defers β0 listed β a1 w1 → Region.ready .any ops listed = [] → Q .normal a1 w1 := by
    intro listed β a1 w1 inv hr
    have hall := all_listed hlen hok inv.size hr
    refine hQ β a1 w1 inv.le (inv.st.congr fun n => ?_) (inv.fr.congr (by rw [hfr', frP_length, frP_length]) fun t ht => ?_) (fun k hk => ?_) inv.ds
    · rw [hM', mP_get, mP_get, lookM_congr (p := fun _ => true) (q := sOf listed) rs 0 n fun k r hk _ => by
        rw [hall (0 + k) (by have := (List.getElem?_eq_some_iff.1 hk).1; rw [hlen] at this; simpa using this)]]
    · rw [frP_length] at ht
      rw [hfr', frP_get _ _ _ _ _ _ ht, frP_get _ _ _ _ _ _ ht, lookF_congr (p := fun _ => true) (q := sOf listed) ops.toList rs 0 t fun k o hk _ => by
        rw [hall (0 + k) (by have := (List.getElem?_eq_some_iff.1 hk).1; simpa using this)]]
    · cases hb : β k with
      | none => rfl
      | some m =>
        exfalso
        have h0 : β0 k = none := hT k (by rw [hM'] at hk; exact Nat.le_trans (mP_length _ rs 0 M) hk)
        obtain ⟨j, r, h3, _, h5⟩ := inv.dom k h0 (by rw [hb]; simp)
        have := mP_has (p := fun _ => true) rs 0 M j r k h3 rfl h5
        rw [hM'] at hk
        omega
  have go : ∀ (fuel : Nat) (listed : Array Bool) (β : Bet) (a1 : Act) (w1 : World), Inv ops W A fr M rs a.defers β0 listed β a1 w1 → (∀ i, i < ops.size → sOf listed i = false → True) → (List.range ops.size).countP (fun i => !sOf listed i) ≤ fuel → wpAny P .any ops Q fuel listed a1 w1 := by
    intro fuel
    induction fuel with
    | zero =>
      intro listed β a1 w1 inv _ hc
      have hr : Region.ready .any ops listed = [] := by
        cases hrr : Region.ready .any ops listed with
        | nil => rfl
        | cons i l =>
          exfalso
          have hi : i ∈ Region.ready .any ops listed := by rw [hrr]; simp
          obtain ⟨hnl, o, ho, _⟩ := mem_ready.1 hi
          have hisz : i < ops.size := (Array.getElem?_eq_some_iff.1 ho).1
          have hpos : 0 < (List.range ops.size).countP (fun i => !sOf listed i) := by
            rw [List.countP_pos_iff]
            refine ⟨i, by simpa using hisz, ?_⟩
            unfold sOf
            have : i < listed.size := by rw [inv.size]; exact hisz
            simp [this] at hnl ⊢
            exact hnl
          omega
      exact ⟨hr, fin listed β a1 w1 inv hr⟩
    | succ fuel ih =>
      intro listed β a1 w1 inv _ hc
      refine ⟨fin listed β a1 w1 inv, fun i hi => ?_⟩
      refine wpOp_mono (fun a2 w2 ⟨β2, inv2⟩ => ih _ β2 a2 w2 inv2 (fun _ _ _ => trivial) ?_) (region_step (mx := ops.size) hlen hok hT (fun k o r _ => hsteps k o r) inv hi (by obtain ⟨_, o, ho, _⟩ := mem_ready.1 hi; exact (Array.getElem?_eq_some_iff.1 ho).1))
      obtain ⟨hnl, o, ho, _⟩ := mem_ready.1 hi
      have hisz : i < ops.size := (Array.getElem?_eq_some_iff.1 ho).1
      have hil : i < listed.size := by rw [inv.size]; exact hisz
      have hSi : sOf listed i = false := by
        unfold sOf
        simp [hil] at hnl ⊢
        exact hnl
      -- one fewer is left
      have cnt : ∀ (l : List Nat), l.Nodup → l.countP (fun j => !sOf (listed.setIfInBounds i true) j) + (if i ∈ l then 1 else 0) ≤ l.countP (fun j => !sOf listed j) := by
        intro l
        induction l with
        | nil => intro _; simp
        | cons x l ihl =>
          intro hnd
          have hnd' := List.nodup_cons.1 hnd
          have := ihl hnd'.2
          simp only [List.countP_cons, sOf_set hil, List.mem_cons]
          simp only [sOf_set hil] at this
          by_cases hx : x = i
          · subst hx
            simp only [if_true, hSi, Bool.not_true, Bool.not_false, Bool.false_eq_true, if_false, true_or]
            rw [if_neg hnd'.1] at this
            omega
          · simp only [hx, if_false, Ne.symm hx, false_or]
            omega
      have := cnt (List.range ops.size) List.nodup_range
      rw [if_pos (by simpa using hisz)] at this
      omega
  refine wp_region_any hm (go ops.size _ β0 a _ ⟨by simp, fun j o _ hs => ?_, Bet.le_refl _, ?_, ?_, fun n h1 h2 => absurd h1 h2, rfl⟩ (fun _ _ _ => trivial) (Nat.le_trans List.countP_le_length (by simp)))
  · have : sOf (Array.replicate ops.size false) j = false := by
      unfold sOf
      rcases Nat.lt_or_ge j ops.size with h | h <;> simp [h]
    rw [this] at hs
    cases hs
  · refine hSt.drew.congr fun n => ?_
    rw [mP_get, lookM_none rs 0 n fun k r _ _ => by
      unfold sOf
      rcases Nat.lt_or_ge (0 + k) ops.size with h | h <;> simp at h <;> simp [h]]
    rfl
  · refine hF.congr (by rw [frP_length]) fun t ht => ?_
    rw [frP_get _ _ _ _ _ _ ht, lookF_none ops.toList rs 0 t fun k o _ _ => by
      unfold sOf
      rcases Nat.lt_or_ge (0 + k) ops.size with h | h <;> simp at h <;> simp [h]]
    rfl

/-! ### a region whose last operation panics -/
def Rec.dum : Rec := ⟨true, [], .t [], []⟩
def okLast (ops : Array Oper) : Bool := (List.range (ops.size - 1)).all fun k => ((bef ops.toList []).getD (ops.size - 1) 0).testBit k
/-- the last operation panics, whatever follows -/
def PanOp (P : Program) (o : Oper) (fr : List SV) (v : Value) : Prop :=
  ∀ (W : World) (A : Nat → Prop) (β : Bet) (M : Mem) (w : World) (a : Act) (next : Act → World → Prop) (Q : Exit → Act → World → Prop),
    St W A β M w → (∀ x ∈ o.op.operands, denS β (a.eval x) (evO fr x)) → Q (.panic [{ v, recovered := false }]) a w → o.wp P a w next Q

theorem frP_app (p : Nat → Bool) (o : Oper) (r : Rec) : ∀ (l : List Oper) (rs : List Rec) (i : Nat) (fr : List SV), rs.length = l.length → p (i + l.length) = false → frP p (l ++ [o]) (rs ++ [r]) i fr = frP p l rs i fr
  | [], [], i, fr, _, hp => by simp at hp; simp [frP, hp]
  | o' :: l, r' :: rs, i, fr, hl, hp => by
    simp only [List.cons_append, frP]
    exact frP_app p o r l rs (i + 1) _ (by simpa using hl) (by rw [← hp]; congr 1; simp; omega)
  | [], _ :: _, _, _, hl, _ => by simp at hl
  | _ :: _, [], _, _, hl, _ => by simp at hl
theorem mP_app (p : Nat → Bool) (r : Rec) : ∀ (rs : List Rec) (i : Nat) (M : Mem), p (i + rs.length) = false → mP p (rs ++ [r]) i M = mP p rs i M
  | [], i, M, hp => by simp at hp; simp [mP, hp]
  | r' :: rs, i, M, hp => by
    simp only [List.cons_append, mP]
    exact mP_app p r rs (i + 1) _ (by rw [← hp]; congr 1; simp; omega)

theorem region_drawP {P : Program} {ops : Array Oper} {id : Nat} {Q : Exit → Act → World → Prop} {W : World} {A : Nat → Prop} {fr : List SV} {M : Mem} {rs : List Rec} {fr' : List SV} {M' : Mem} {β0 : Bet} {a : Act} {w : World} (hm : P.follows .mixedOrders = true)
    {l : List Oper} {o : Oper} (hL : ops.toList = l ++ [o]) (hg : o.guard = none)
    (ht : Text P ops true l fr M rs fr' M') (hok : okOrder ops (rs ++ [Rec.dum]) = true) (hlast : okLast ops = true) (hT : Top β0 M.length) (hSt : St W A β0 M w) (hF : Fr β0 a.tmps fr)
    (hQ : ∀ β' a' w' next, β0.le β' → St W A β' M' w' → Fr β' a'.tmps fr' → Top β' M'.length → a'.defers = a.defers → o.wp P a' w' next Q) : (Code.region id ops true).wp P Q a w := by
  obtain ⟨hlen0, hfr', hM', hsteps0⟩ := text_steps _ _ _ _ _ _ ht
  have hsz : ops.size = l.length + 1 := by rw [← Array.length_toList, hL]; simp
  have hlen : (rs ++ [Rec.dum]).length = ops.toList.length := by rw [hL]; simp [hlen0]
  have hsteps : ∀ k o' r, k < l.length → ops.toList[k]? = some o' → (rs ++ [Rec.dum])[k]? = some r → Step P ops o' r (frP (fun j => decide (j < k)) ops.toList (rs ++ [Rec.dum]) 0 fr) (mP (fun j => decide (j < k)) (rs ++ [Rec.dum]) 0 M) := by
    intro k o' r hk h1 h2
    rw [hL, List.getElem?_append_left hk] at h1
    rw [List.getElem?_append_left (by omega)] at h2
    have := hsteps0 k o' r h1 h2
    rw [hL, frP_app _ _ _ _ _ _ _ hlen0 (by simp; omega), mP_app _ _ _ _ _ (by simp; omega)]
    exact this
  have hoL : ops.toList[l.length]? = some o := by rw [hL]; simp
  have hoA : ops[l.length]? = some o := by simpa using hoL
  have go : ∀ (fuel : Nat) (listed : Array Bool) (β : Bet) (a1 : Act) (w1 : World), Inv ops W A fr M (rs ++ [Rec.dum]) a.defers β0 listed β a1 w1 → sOf listed l.length = false → (List.range ops.size).countP (fun i => !sOf listed i) ≤ fuel → wpAny P .any ops Q fuel listed a1 w1 := by
    intro fuel
    induction fuel with
    | zero =>
      intro listed β a1 w1 inv hn hc
      exfalso
      have hpos : 0 < (List.range ops.size).countP (fun i => !sOf listed i) := by
        rw [List.countP_pos_iff]
        exact ⟨l.length, by simp [hsz], by simp [hn]⟩
      omega
    | succ fuel ih =>
      intro listed β a1 w1 inv hn hc
      refine ⟨fun hr => ?_, fun i hi => ?_⟩
      · have := all_listed hlen hok inv.size hr l.length (by omega)
        rw [hn] at this
        cases this
      · by_cases hil0 : i = l.length
        · subst hil0
          obtain ⟨_, o2, ho2, hall⟩ := mem_ready.1 hi
          have hpre : ∀ k, k < l.length → sOf listed k = true := by
            intro k hk
            have hk2 : ((bef ops.toList []).getD l.length 0).testBit k = true := by
              have := List.all_eq_true.1 hlast k (by simp [hsz]; exact hk)
              simpa [hsz] using this
            obtain ⟨e, he, hb, h⟩ := bef_step hoL hk2
            rw [hoA] at ho2
            cases ho2
            have hon : sOf listed e.on = true := hall e (by simpa using he) hb
            rcases h with rfl | ⟨_, h⟩
            · exact hon
            · exact closed_bef inv.closed e.on k hon h
          unfold wpOp
          simp only [hoA]
          have hw : Region.wanted o (yielded ops a1.tmps) = true := by unfold Region.wanted; rw [hg]
          rw [if_pos hw]
          refine .inl (hQ β a1 w1 _ inv.le (inv.st.congr fun n => ?_) (inv.fr.congr (by rw [hfr', frP_length, frP_length]) fun t ht => ?_) (fun k hk => ?_) inv.ds)
          · rw [hM', mP_app _ _ _ _ _ (by rw [Nat.zero_add, hlen0]; exact hn), mP_get, mP_get, lookM_congr (p := fun _ => true) (q := sOf listed) rs 0 n fun k r hk _ => by
              rw [hpre (0 + k) (by have := (List.getElem?_eq_some_iff.1 hk).1; omega)]]
          · rw [frP_length] at ht
            rw [hfr', hL, frP_app _ _ _ _ _ _ _ hlen0 (by rw [Nat.zero_add]; exact hn), frP_get _ _ _ _ _ _ ht, frP_get _ _ _ _ _ _ ht, lookF_congr (p := fun _ => true) (q := sOf listed) l rs 0 t fun k o hk _ => by
              rw [hpre (0 + k) (by have := (List.getElem?_eq_some_iff.1 hk).1; omega)]]
          · cases hb : β k with
            | none => rfl
            | some m =>
              exfalso
              have h0 : β0 k = none := hT k (by rw [hM'] at hk; exact Nat.le_trans (mP_length _ rs 0 M) hk)
              obtain ⟨j, r, h3, h3', h5⟩ := inv.dom k h0 (by rw [hb]; simp)
              have hjl : j < rs.length := by
                have := (List.getElem?_eq_some_iff.1 h3).1
                simp at this
                rcases Nat.lt_or_ge j rs.length with h | h
                · exact h
                · have : j = l.length := by omega
                  subst this
                  rw [hn] at h3'
                  cases h3'
              rw [List.getElem?_append_left hjl] at h3
              have := mP_has (p := fun _ => true) rs 0 M j r k h3 rfl h5
              rw [hM'] at hk
              omega
        · obtain ⟨hnl, o2, ho2, _⟩ := mem_ready.1 hi
          have hisz : i < ops.size := (Array.getElem?_eq_some_iff.1 ho2).1
          have hil : i < listed.size := by rw [inv.size]; exact hisz
          refine wpOp_mono (fun a2 w2 ⟨β2, inv2⟩ => ih _ β2 a2 w2 inv2 ?_ ?_) (region_step (mx := l.length) hlen hok hT hsteps inv hi (by omega))
          · rw [sOf_set hil, if_neg (Ne.symm hil0)]; exact hn
          have hSi : sOf listed i = false := by
            unfold sOf
            simp [hil] at hnl ⊢
            exact hnl
          have cnt : ∀ (l : List Nat), l.Nodup → l.countP (fun j => !sOf (listed.setIfInBounds i true) j) + (if i ∈ l then 1 else 0) ≤ l.countP (fun j => !sOf listed j) := by
            intro l
            induction l with
            | nil => intro _; simp
            | cons x l ihl =>
              intro hnd
              have hnd' := List.nodup_cons.1 hnd
              have := ihl hnd'.2
              simp only [List.countP_cons, sOf_set hil, List.mem_cons]
              simp only [sOf_set hil] at this
              by_cases hx : x = i
              · subst hx
                simp only [if_true, hSi, Bool.not_true, Bool.not_false, Bool.false_eq_true, if_false, true_or]
                rw [if_neg hnd'.1] at this
                omega
              · simp only [hx, if_false, Ne.symm hx, false_or]
                omega
          have := cnt (List.range ops.size) List.nodup_range
          rw [if_pos (by simpa using hisz)] at this
          omega
  have hs0 : ∀ j, sOf (Array.replicate ops.size false) j = false := fun j => by
    unfold sOf
    rcases Nat.lt_or_ge j ops.size with h | h <;> simp [h]
  refine wp_region_any hm (go ops.size _ β0 a _ ⟨by simp, fun j o _ hs => ?_, Bet.le_refl _, ?_, ?_, fun n h1 h2 => absurd h1 h2, rfl⟩ (hs0 _) (Nat.le_trans List.countP_le_length (by simp)))
  · rw [hs0] at hs
    cases hs
  · refine hSt.drew.congr fun n => ?_
    rw [mP_get, lookM_none _ 0 n fun k r _ _ => hs0 _]
    rfl
  · refine hF.congr (by rw [frP_length]) fun t ht => ?_
    rw [frP_get _ _ _ _ _ _ ht, lookF_none ops.toList _ 0 t fun k o _ _ => hs0 _]
    rfl

/-- A CONTRACT of a function that panics with v: it turns nothing -/
structure PC (P : Program) (g : FuncId) (args0 : List SV) (v : Value) : Prop where
  can : Go.Sx.callable P g = true
  run : ∀ (β : Bet) (w : World) (vals : List Value), denLS β vals args0 → Calls P g vals.toArray w fun e w' => e = .panicked [{ v, recovered := false }] ∧ w' = w
/-- a call that panics -/
def panS (P : Program) (o : Oper) (fr : List SV) (v : Value) : Prop :=
  match o.op with
  | .call c => (match c.callee with
    | .value (.func g) => PC P g (evArgs fr c.args.toList) v
    | _ => False)
  | _ => False
theorem panS_sound {P : Program} {o : Oper} {fr : List SV} {v : Value} (h : panS P o fr v) : PanOp P o fr v := by
  unfold panS at h
  split at h
  · rename_i c ho
    split at h
    · rename_i g hf
      intro W A β M w a next Q hSt hop hQ
      have hd := evArgs_den (β := β) (a := a) (fr := fr) c.args.toList (fun x hx => hop x (by simp only [ho, Op.operands, Call.operands, hf, Array.mem_append]; exact .inr (by simpa using hx)))
      have hrun := run_callFunc h.can (c.args.map a.eval) w
      have hr : (execOp a.eval o).run P w = .ok (.enter g (c.args.toList.map a.eval).toArray) w := by
        simp only [execOp, ho, resolve, hf, Act.eval, Deferred.ofValue, Sem.run_bind, Sem.run_pure, Result.andThen_ok, invoke]
        rw [show (#[] : Array Value) ++ c.args.map a.eval ++ #[] = c.args.map a.eval by simp, hrun]
        congr 2
        apply Array.ext'
        simp
      unfold Oper.wp
      rw [hr]
      refine (h.run β w _ hd).mono fun e w' ⟨he, hw⟩ => ?_
      subst he
      subst hw
      exact hQ
    · exact h.elim
  · exact h.elim
end Go.Sx
namespace Go.Sx

inductive AX where
  | normal
  | exit (n : Nat)
  | ret
  | pan (v : Value)

def bCp (g : Nat) : Cp → Bool
  | .p n _ _ => Nat.blt n g
  | _ => true
def bC (g : Nat) : C → Bool
  | .p n _ _ => Nat.blt n g
  | .s n _ _ _ => Nat.blt n g
  | .f _ fi ca => fi.all (bCp g) && ca.all (bCp g)
  | .m n => Nat.blt n g
  | _ => true
def b1 (g : Nat) : V1 → Bool
  | .c c => bC g c
  | .a l => l.all (bC g)
def bS (g : Nat) : SV → Bool
  | .o y => b1 g y
  | .t l => l.all (b1 g)
def bBk (g : Nat) : Bk → Prop
  | .box l => l.all (bC g) = true
  | .rows _ n row => ∀ i, i < n → (row i).all (bC g) = true
  | .deep _ _ ov => (match ov with | some (_, c) => bC g c = true | none => True)
  | _ => True
def bM (g : Nat) : Mem → Prop
  | [] => True
  | none :: l => bM g l
  | some k :: l => bBk g k.k ∧ bM g l

def lk : List (Nat × SV) → Nat → SV
  | [], _ => .o (.c .u)
  | (s, v) :: r, i => if s = i then v else lk r i
def mkFr : Nat → Nat → List (Nat × SV) → List SV
  | _, 0, _ => []
  | i, n + 1, L => lk L i :: mkFr (i + 1) n L
def leF (fr : List SV) : List (Nat × SV) → Prop
  | [] => True
  | (s, v) :: r => frGet fr s = v ∧ leF fr r
def leM : Mem → Mem → Prop
  | _, [] => True
  | [], none :: G => leM [] G
  | [], some _ :: _ => False
  | _ :: M, none :: G => leM M G
  | m :: M, some g :: G => m = some g ∧ leM M G
def bL (g : Nat) : List (Nat × SV) → Bool
  | [] => true
  | (_, v) :: r => bS g v && bL g r

def acond (c : SV) (t f : Prop) : Prop :=
  match c with
  | .o (.c (.v (.bool b))) => bsel b t f
  | _ => False


/-! ### the run of a region, written out at each step -/
noncomputable def setF (l : List SV) : Nat → SV → (List SV → Prop) → Prop :=
  List.rec (motive := fun _ => Nat → SV → (List SV → Prop) → Prop) (fun _ _ K => K []) (fun y l ih n x K => match n with
    | 0 => K (x :: l)
    | n + 1 => ih n x fun l => K (y :: l)) l
theorem setF_succ (y : SV) (l : List SV) (n : Nat) (x : SV) (K : List SV → Prop) : setF (y :: l) (n + 1) x K = setF l n x fun l => K (y :: l) := rfl
theorem setF_eq : ∀ (l : List SV) (n : Nat) (x : SV) (K : List SV → Prop), setF l n x K = K (frSet l n x)
  | [], _, _, _ => rfl
  | _ :: _, 0, _, _ => rfl
  | y :: l, n + 1, x, K => by rw [setF_succ, setF_eq l]; rfl
noncomputable def putF (l : List SV) (d : Option Nat) (x : SV) (K : List SV → Prop) : Prop :=
  match d with
  | none => K l
  | some d => setF l d x K
theorem putF_eq (l : List SV) (d : Option Nat) (x : SV) (K : List SV → Prop) : putF l d x K = K (frPut l d x) := by cases d <;> simp [putF, frPut, setF_eq]
noncomputable def forceO (b : Option Blk) (K : Option Blk → Prop) : Prop :=
  match b with
  | none => K none
  | some b => forceB b.k fun k => match b.wr with
    | true => K (some ⟨k, true⟩)
    | false => K (some ⟨k, false⟩)
theorem forceO_eq (b : Option Blk) (K : Option Blk → Prop) : forceO b K = K b := by
  cases b with
  | none => rfl
  | some b =>
    obtain ⟨k, w⟩ := b
    cases w <;> simp only [forceO, forceB_eq]
noncomputable def putM (M : Mem) (n : Nat) : Option Blk → (Mem → Prop) → Prop :=
  Nat.rec (motive := fun _ => Mem → Option Blk → (Mem → Prop) → Prop) (fun M b K => match M with
    | [] => K [b]
    | _ :: l => K (b :: l)) (fun _ ih M b K => match M with
    | [] => ih [] b fun l => K (none :: l)
    | x :: l => ih l b fun l => K (x :: l)) n M
theorem putM_nil (n : Nat) (b : Option Blk) (K : Mem → Prop) : putM [] (n + 1) b K = putM [] n b fun l => K (none :: l) := rfl
theorem putM_cons (x : Option Blk) (l : Mem) (n : Nat) (b : Option Blk) (K : Mem → Prop) : putM (x :: l) (n + 1) b K = putM l n b fun l => K (x :: l) := rfl
theorem putM_eq : ∀ (M : Mem) (n : Nat) (b : Option Blk) (K : Mem → Prop), putM M n b K = K (M.put n b)
  | [], 0, _, _ => rfl
  | [], n + 1, b, K => by rw [putM_nil, putM_eq [] n]; rfl
  | _ :: _, 0, _, _ => rfl
  | x :: l, n + 1, b, K => by rw [putM_cons, putM_eq l n]; rfl
noncomputable def appF (M : Mem) (r : Ups) : (Mem → Prop) → Prop :=
  List.rec (motive := fun _ => Mem → (Mem → Prop) → Prop) (fun M K => K M) (fun u _ ih M K => forceO u.2 fun b => putM M u.1 b fun M => ih M K) r M
theorem appF_cons (u : Nat × Option Blk) (r : Ups) (M : Mem) (K : Mem → Prop) : appF M (u :: r) K = forceO u.2 fun b => putM M u.1 b fun M => appF M r K := rfl
theorem appF_eq : ∀ (r : Ups) (M : Mem) (K : Mem → Prop), appF M r K = K (M.app r)
  | [], _, _ => rfl
  | (n, b) :: r, M, K => by rw [appF_cons, forceO_eq, putM_eq, appF_eq r]; rfl

/-- of an operation: the names that it looked at, those that it wrote -/
structure RL where
  fp : List Nat
  un : List Nat
def Rec.light (r : Rec) : RL := ⟨r.fp, r.ups.map (·.1)⟩

abbrev Kn := List SV → Mem → List RL → Prop
/-- one operation -/
noncomputable def goF (P : Program) (draw : Bool) (o : Oper) (M : Mem) (rs : List RL) (next : Kn) (fr : List SV) : Prop :=
  let fp := if draw then fpOf o fr M else []
  let rd := if draw then res M fp else M
  evS P o fr rd M.length fun v ups => if okUps rd M.length ups then forceS v fun v => putF fr o.dst v fun fr => appF M ups fun M => next fr M (⟨fp, ups.map (·.1)⟩ :: rs) else False
noncomputable def skipF (o : Oper) (M : Mem) (rs : List RL) (next : Kn) (fr : List SV) : Prop := putF fr o.dst (.t []) fun fr => next fr M (⟨[], []⟩ :: rs)
def wantF (b : Bool) (x y : List SV → Prop) : List SV → Prop := match b with | true => x | false => y
noncomputable def stepF (P : Program) (ops : Array Oper) (draw : Bool) (o : Oper) (fr : List SV) (M : Mem) (rs : List RL) (next : Kn) : Prop :=
  match o.guard with
  | none => goF P draw o M rs next fr
  | some (j, want) => (match (ops[j]?).bind (·.dst) with
    | none => skipF o M rs next fr
    | some d => (match frGet fr d with
      | .o (.c (.v (.bool b))) => bsel b (setF fr d (boo true) (wantF want (goF P draw o M rs next) (skipF o M rs next))) (setF fr d (boo false) (wantF want (skipF o M rs next) (goF P draw o M rs next)))
      | .t [] => skipF o M rs next fr
      | _ => False))
noncomputable def runF (P : Program) (ops : Array Oper) (draw : Bool) (l : List Oper) : List SV → Mem → List RL → Kn → Prop :=
  List.rec (motive := fun _ => List SV → Mem → List RL → Kn → Prop) (fun fr M rs K => K fr M rs.reverse) (fun o _ ih fr M rs K => stepF P ops draw o fr M rs fun fr M rs => ih fr M rs K) l
theorem runF_cons (P : Program) (ops : Array Oper) (draw : Bool) (o : Oper) (l : List Oper) (fr : List SV) (M : Mem) (rs : List RL) (K : Kn) :
    runF P ops draw (o :: l) fr M rs K = stepF P ops draw o fr M rs fun fr M rs => runF P ops draw l fr M rs K := rfl

theorem evS_mono {P : Program} {o : Oper} {fr : List SV} {rd : Mem} {nm : Nat} {K K' : Kt} (hK : ∀ v ups, K v ups → K' v ups) (hnm : rd.get nm = none) (h : evS P o fr rd nm K) : ∃ v ups, SemOp P o fr rd v ups ∧ K' v ups :=
  let ⟨v, ups, h1, h2⟩ := evS_sound hnm h
  ⟨v, ups, h1, hK v ups h2⟩

theorem runF_text {P : Program} {ops : Array Oper} {draw : Bool} : ∀ (l : List Oper) (fr : List SV) (M : Mem) (rs : List RL) (K : List SV → Mem → List RL → Prop), runF P ops draw l fr M rs K →
    ∃ rs' fr' M', Text P ops draw l fr M rs' fr' M' ∧ K fr' M' (rs.reverse ++ rs'.map Rec.light)
  | [], fr, M, rs, K, h => ⟨[], fr, M, ⟨rfl, rfl⟩, by rw [List.map_nil, List.append_nil]; exact h⟩
  | o :: l, fr, M, rs, K, h => by
    have hgo : ∀ {fr : List SV}, wantA ops o fr = some true →
        (let fp := if draw then fpOf o fr M else []
         let rd := if draw then res M fp else M
         evS P o fr rd M.length fun v ups => if okUps rd M.length ups then forceS v fun v => putF fr o.dst v fun fr => appF M ups fun M => runF P ops draw l fr M (⟨fp, ups.map (·.1)⟩ :: rs) K else False) →
        ∃ rs' fr' M', Text P ops draw (o :: l) fr M rs' fr' M' ∧ K fr' M' (rs.reverse ++ rs'.map Rec.light) := by
      intro fr hw h
      simp only at h
      generalize hfp : (if draw = true then fpOf o fr M else []) = fp at h
      generalize hrdd : (if draw = true then res M fp else M) = rd at h
      have hnm : rd.get M.length = none := by
        rw [← hrdd]
        cases draw with
        | true => simp only [if_true]; rw [res_get]; split; exact Mem.get_len M; rfl
        | false => simp only [Bool.false_eq_true, if_false]; exact Mem.get_len M
      obtain ⟨v, ups, hsem, hK⟩ := evS_sound hnm h
      by_cases hok : okUps rd M.length ups = true
      · rw [if_pos hok, forceS_eq, putF_eq, appF_eq] at hK
        obtain ⟨rs', fr', M', ht, hk⟩ := runF_text l _ _ _ _ hK
        refine ⟨⟨true, fp, v, ups⟩ :: rs', fr', M', ⟨hw, ?_, ht⟩, by simpa [Rec.light] using hk⟩
        simp only [if_true, hrdd]
        exact ⟨hsem, hok⟩
      · rw [if_neg hok] at hK
        exact hK.elim
    have hskip : ∀ {fr : List SV}, wantA ops o fr = some false → (putF fr o.dst (.t []) fun fr => runF P ops draw l fr M (⟨[], []⟩ :: rs) K) →
        ∃ rs' fr' M', Text P ops draw (o :: l) fr M rs' fr' M' ∧ K fr' M' (rs.reverse ++ rs'.map Rec.light) := by
      intro fr hw h
      rw [putF_eq] at h
      obtain ⟨rs', fr', M', ht, hk⟩ := runF_text l _ _ _ _ h
      exact ⟨⟨false, [], .t [], []⟩ :: rs', fr', M', ⟨hw, by simp, ht⟩, by simpa [Rec.light] using hk⟩
    rw [runF_cons] at h
    unfold stepF at h
    split at h
    · rename_i hg
      exact hgo (by simp [wantA, hg]) h
    · rename_i j want hg
      split at h
      · rename_i hd
        exact hskip (by simp only [wantA, hg, hd]) h
      · rename_i d hd
        split at h
        · rename_i b hb
          have hself : frSet fr d (boo b) = fr := by
            have := frSet_self fr d
            rw [hb] at this
            exact this
          have hw : wantA ops o fr = some (b == want) := by simp only [wantA, hg, hd, hb]
          cases b with
          | true =>
            simp only [bsel] at h
            rw [setF_eq, hself] at h
            cases want with
            | true => exact hgo (by rw [hw]; rfl) h
            | false => exact hskip (by rw [hw]; rfl) h
          | false =>
            simp only [bsel] at h
            rw [setF_eq, hself] at h
            cases want with
            | true => exact hskip (by rw [hw]; rfl) h
            | false => exact hgo (by rw [hw]; rfl) h
        · rename_i hb
          exact hskip (by simp only [wantA, hg, hd, hb]) h
        · exact h.elim

def hasN : List Nat → Nat → Bool
  | [], _ => false
  | n :: r, k => (n == k) || hasN r k
def nameConfL (r r' : RL) : Bool := (r.un.any fun u => r'.fp.contains u || hasN r'.un u) || r'.un.any fun u => r.fp.contains u
def okRowL (ops : Array Oper) (b : Nat) (o' : Oper) (r' : RL) : List Oper → List RL → Nat → Nat → Bool
  | o :: l, r :: rs, i, j => if i < j then (!(slotConf ops o o' || nameConfL r r') || b.testBit i) && okRowL ops b o' r' l rs (i + 1) j else true
  | _, _, _, _ => true
def okAllL (ops : Array Oper) (L : List Oper) (R : List RL) (B : List Nat) : List Oper → List RL → Nat → Bool
  | o :: l, r :: rs, j => o.after.toList.all (fun e => !Region.binds .any e || Nat.blt e.on j) && okRowL ops (B.getD j 0) o r L R 0 j && okAllL ops L R B l rs (j + 1)
  | _, _, _ => true
def okOrderL (ops : Array Oper) (rs : List RL) : Bool := okAllL ops ops.toList rs (bef ops.toList []) ops.toList rs 0

theorem hasN_light : ∀ (u : Ups) (n : Nat), hasN (u.map (·.1)) n = u.has n
  | [], _ => rfl
  | (k, b) :: r, n => by simp [hasN, Ups.has, hasN_light r]
theorem nameConf_light (r r' : Rec) : nameConfL r.light r'.light = nameConf r r' := by
  simp only [nameConfL, nameConf, Rec.light, List.any_map, Function.comp_def, hasN_light]
theorem okRow_light {ops : Array Oper} {b : Nat} {o' : Oper} {r' : Rec} : ∀ (l : List Oper) (rs : List Rec) (i j : Nat), okRowL ops b o' r'.light l (rs.map Rec.light) i j = okRow ops b o' r' l rs i j
  | o :: l, r :: rs, i, j => by simp only [okRowL, okRow, List.map_cons, nameConf_light, okRow_light l rs]
  | [], _, _, _ => by simp [okRowL, okRow]
  | _ :: _, [], _, _ => by simp [okRowL, okRow]
theorem okAll_light {ops : Array Oper} {L : List Oper} {R : List Rec} {B : List Nat} : ∀ (l : List Oper) (rs : List Rec) (j : Nat), okAllL ops L (R.map Rec.light) B l (rs.map Rec.light) j = okAll ops L R B l rs j
  | o :: l, r :: rs, j => by simp only [okAllL, okAll, List.map_cons, okRow_light, okAll_light l rs]
  | [], _, _ => by simp [okAllL, okAll]
  | _ :: _, [], _ => by simp [okAllL, okAll]
theorem okOrder_light (ops : Array Oper) (rs : List Rec) : okOrderL ops (rs.map Rec.light) = okOrder ops rs := okAll_light _ _ _

abbrev Kx := AX → List SV → Mem → Prop

/-- the same rows -/
def Bk.Eqv (k k' : Bk) : Prop := k.isBox = false ∧ k'.isBox = false ∧ k.sz = k'.sz ∧ k'.n ≤ k.n ∧ ∀ i, i < k'.n → k.row i = k'.row i
def leB (m : Option Blk) (g : Blk) : Prop := m = some g ∨ ∃ k, m = some k ∧ (g.wr = true → k.wr = true) ∧ Bk.Eqv k.k g.k
theorem leB.refl {g : Blk} : leB (some g) g := .inl (Eq.refl _)
/-- names taken anew: a name of before, or a new one without cells -/
inductive Rn where
  | to (n : Nat)
  | new (sz : Nat)
abbrev Rns := List (Nat × Rn)
def rnG : Rns → Nat → Rn
  | [], n => .to n
  | (k, v) :: r, n => if k = n then v else rnG r n
def isTo : Rn → Bool
  | .to _ => true
  | .new _ => false
def exCp (rn : Rns) : Cp → Cp
  | .v x => .v x
  | .p n i j => (match rnG rn n with | .to n' => .p n' i j | .new _ => .v (.pointer none))
def exC (rn : Rns) : C → C
  | .v x => .v x
  | .p n i j => (match rnG rn n with | .to n' => .p n' i j | .new _ => .u)
  | .s n off len sz => (match rnG rn n with | .to n' => .s n' off len sz | .new _ => .v (.slice none 0 0))
  | .z => .z
  | .u => .u
  | .f g fi ca => .f g (fi.map (exCp rn)) (ca.map (exCp rn))
  | .m n => (match rnG rn n with | .to n' => .m n' | .new _ => .u)
def ex1 (rn : Rns) : V1 → V1
  | .c c => .c (exC rn c)
  | .a l => .a (l.map (exC rn))
def exS (rn : Rns) : SV → SV
  | .o y => .o (ex1 rn y)
  | .t l => .t (l.map (ex1 rn))
def okCp (rn : Rns) : Cp → Bool
  | .v _ => true
  | .p n _ _ => isTo (rnG rn n)
def okC (rn : Rns) : C → Bool
  | .p n _ _ => isTo (rnG rn n)
  | .s n _ len sz => (match rnG rn n with | .to _ => true | .new s => Nat.beq len 0 && Nat.beq sz s)
  | .f _ fi ca => fi.all (okCp rn) && ca.all (okCp rn)
  | .m n => isTo (rnG rn n)
  | _ => true
def ok1 (rn : Rns) : V1 → Bool
  | .c c => okC rn c
  | .a l => l.all (okC rn)
def okS (rn : Rns) : SV → Bool
  | .o y => ok1 rn y
  | .t l => l.all (ok1 rn)
def exBk (rn : Rns) : Bk → Bk
  | .box l => .box (l.map (exC rn))
  | .ints k xs => .ints k xs
  | .bools xs => .bools xs
  | .rows sz n row => .rows sz n fun i => (row i).map (exC rn)
  | .map s es => .map s es
  | .deep lo rs ov => .deep lo rs (match ov with | some (j, c) => some (j, exC rn c) | none => none)
def exB (rn : Rns) (k : Blk) : Blk := ⟨exBk rn k.k, k.wr⟩
def okBk (rn : Rns) : Bk → Prop
  | .box l => l.all (okC rn) = true
  | .rows _ n row => ∀ i, i < n → (row i).all (okC rn) = true
  | .deep _ _ ov => (match ov with | some (_, c) => okC rn c = true | none => True)
  | _ => True
def leFx (rn : Rns) (fr : List SV) : List (Nat × SV) → Prop
  | [] => True
  | (s, v) :: r => frGet fr s = exS rn v ∧ leFx rn fr r
def okF (rn : Rns) : List (Nat × SV) → Bool
  | [] => true
  | (_, v) :: r => okS rn v && okF rn r
def fitB (rn : Rns) (M : Mem) (n : Nat) (g : Blk) : Prop :=
  match rnG rn n with
  | .to n' => leB (M.get n') (exB rn g)
  | .new sz => g.k.fits sz ∧ g.k.need = 0
/-- a state that may be seen otherwise -/
structure MLe (M M' : Mem) : Prop where
  len : M.length ≤ M'.length
  st : ∀ (W : World) (A : Nat → Prop) (β : Bet) (w : World), St W A β M w → St W A β M' w
theorem MLe.refl (M : Mem) : MLe M M := ⟨Nat.le_refl _, fun _ _ _ _ h => h⟩
theorem MLe.trans {M M' M'' : Mem} (h : MLe M M') (k : MLe M' M'') : MLe M M'' := ⟨Nat.le_trans h.len k.len, fun W A β w h0 => k.st W A β w (h.st W A β w h0)⟩
/-- the state (fr, M), seen as (H, G) over names of its own -/
structure AFit (rn : Rns) (k0 : Nat) (fr : List SV) (M : Mem) (H : List (Nat × SV)) (G : Mem) : Prop where
  f : leFx rn fr H
  m : ∀ n g, G.get n = some g → fitB rn M n g
  len : k0 ≤ G.length
  bl : bL G.length H = true
  bm : bM G.length G
  okf : okF rn H = true
  okm : ∀ n g, G.get n = some g → okBk rn g.k
  idle : ∀ n, n < k0 → rnG rn n = .to n
  inj : ∀ n n' g g' a, n ≠ n' → G.get n = some g → G.get n' = some g' → g.wr = true → rnG rn n = .to a → rnG rn n' ≠ .to a
structure AFitM (k0 : Nat) (fr : List SV) (M : Mem) (H : List (Nat × SV)) (G : Mem) : Prop where
  ex : ∃ M' rn, MLe M M' ∧ AFit rn k0 fr M' H G

/-- a loop: what holds at the head of every round -/
def ALoop0 (k0 : Nat) (body : List SV → Mem → Kx → Prop) (fr : List SV) (M : Mem) (K : Kx) : Prop :=
  ∃ (X : Type) (inv : X → Prop) (N : Nat) (H : X → List (Nat × SV)) (G : X → Mem) (μ : X → Nat) (at' : X → List SV → Mem → Prop) (x0 : X),
    N = fr.length ∧ inv x0 ∧ (∀ x fr' M', at' x fr' M' → AFitM k0 fr' M' (H x) (G x)) ∧ at' x0 fr M ∧
    ∀ x, inv x → body (mkFr 0 N (H x)) (G x) fun e fr' M' => match e with
        | .normal => ∃ x', (inv x' ∧ μ x' < μ x) ∧ at' x' fr' M'
        | e => K e fr' M'

structure ALoop (k0 : Nat) (body : List SV → Mem → Kx → Prop) (fr : List SV) (M : Mem) (K : Kx) : Prop where
  h : ALoop0 k0 body fr M K

/-- what follows a part that ended so -/
def seqK (K : Kx) (b : List SV → Mem → Kx → Prop) : Kx := fun e fr M => match e with
  | .normal => b fr M K
  | e => K e fr M
def blockK (id : Nat) (K : Kx) : Kx := fun e fr M => match e with
  | .exit i => if i = id then K .normal fr M else K (.exit i) fr M
  | e => K e fr M
noncomputable def regN (P : Program) (ops : Array Oper) (draw : Bool) (fr : List SV) (M : Mem) (K : Kx) : Prop := match draw with
  | true => runF P ops true ops.toList fr M [] fun fr M rs => okOrderL ops rs = true ∧ K .normal fr M
  | false => runF P ops false ops.toList fr M [] fun fr M _ => K .normal fr M
noncomputable def lastOf (l : List Oper) : Option Oper := List.rec (motive := fun _ => Option Oper) none (fun o l ih => match l with | [] => some o | _ :: _ => ih) l
noncomputable def initOf (l : List Oper) : List Oper := List.rec (motive := fun _ => List Oper) [] (fun o l ih => match l with | [] => [] | _ :: _ => o :: ih) l
/-- may the region end by a call that panics: the last operation calls a function without results -/
noncomputable def mayPan (ops : Array Oper) : Bool := match lastOf ops.toList with
  | some o => (match o.op with
    | .call c => (match c.callee with
      | .value (.func _) => (match o.guard with | none => Nat.beq o.type 0 | some _ => false)
      | _ => false)
    | _ => false)
  | none => false
/-- the region's last operation panics -/
noncomputable def panF (P : Program) (ops : Array Oper) (draw : Bool) (fr : List SV) (M : Mem) (K : Kx) : Prop := match lastOf ops.toList with
  | some o => runF P ops draw (initOf ops.toList) fr M [] fun fr' M' rs => match draw with
    | true => okOrderL ops (rs ++ [⟨[], []⟩]) = true ∧ (okLast ops = true ∧ ∃ v, panS P o fr' v ∧ K (.pan v) fr' M')
    | false => ∃ v, panS P o fr' v ∧ K (.pan v) fr' M'
  | none => False
structure APan (P : Program) (ops : Array Oper) (draw : Bool) (fr : List SV) (M : Mem) (K : Kx) : Prop where
  h : regN P ops draw fr M K ∨ (mayPan ops = true ∧ panF P ops draw fr M K)
theorem APan.go {P : Program} {ops : Array Oper} {draw : Bool} {fr : List SV} {M : Mem} {K : Kx} (h : regN P ops draw fr M K) : APan P ops draw fr M K := ⟨.inl h⟩
theorem APan.pan {P : Program} {ops : Array Oper} {draw : Bool} {fr : List SV} {M : Mem} {K : Kx} (h : panF P ops draw fr M K) (hm : mayPan ops = true := by kernel_rfl) : APan P ops draw fr M K := ⟨.inr ⟨hm, h⟩⟩
noncomputable def regF (P : Program) (ops : Array Oper) (draw : Bool) (fr : List SV) (M : Mem) (K : Kx) : Prop := match mayPan ops with
  | true => APan P ops draw fr M K
  | false => regN P ops draw fr M K
theorem lastOf_cons (o o' : Oper) (l : List Oper) : lastOf (o :: o' :: l) = lastOf (o' :: l) := rfl
theorem initOf_cons (o o' : Oper) (l : List Oper) : initOf (o :: o' :: l) = o :: initOf (o' :: l) := rfl
theorem init_last : ∀ (l : List Oper) (o : Oper), lastOf l = some o → l = initOf l ++ [o]
  | [], _, h => by cases h
  | [x], o, h => by
    have : some x = some o := h
    cases this
    rfl
  | x :: y :: l, o, h => by
    rw [lastOf_cons] at h
    rw [initOf_cons, List.cons_append, ← init_last (y :: l) o h]
/-- in how many ways a part of the text ends; where it leaves to -/
noncomputable def ways (c : Code) : Nat × List Nat :=
  Code.rec (motive := fun _ => Nat × List Nat) (1, []) (fun _ _ _ => (1, [])) (fun _ _ a b => match a with | (0, e) => (0, e) | (_ + 1, e) => (b.1, e ++ b.2))
    (fun _ _ _ a b => (a.1 + b.1, a.2 ++ b.2)) (fun id _ a => (a.1 + (a.2.filter fun i => Nat.beq i id).length, a.2.filter fun i => !Nat.beq i id)) (fun _ a => (0, a.2))
    (fun _ _ _ _ _ _ => (1, [])) (fun i => (0, [i])) (fun _ _ => (1, [])) (fun _ => (1, [])) (fun _ => (0, [])) (0, []) (fun _ => (0, [])) c
/-- may the parts of the text come together behind it -/
noncomputable def joinable (c : Code) : Bool := Nat.blt 1 (ways c).1
/-- where parts come together: go on from each, or from what is said of all -/
def AJoin0 (k0 : Nat) (x y : List SV → Mem → Kx → Prop) (fr : List SV) (M : Mem) (K : Kx) : Prop :=
  x fr M (seqK K y) ∨
  ∃ (X : Type) (inv : X → Prop) (N : Nat) (H : X → List (Nat × SV)) (G : X → Mem) (at' : X → List SV → Mem → Prop), N = fr.length ∧ (∀ x fr' M', at' x fr' M' → AFitM k0 fr' M' (H x) (G x)) ∧
    x fr M (fun e fr' M' => match e with
      | .normal => ∃ x', inv x' ∧ at' x' fr' M'
      | e => K e fr' M') ∧
    ∀ x, inv x → y (mkFr 0 N (H x)) (G x) K
structure AJoin (k0 : Nat) (x y : List SV → Mem → Kx → Prop) (fr : List SV) (M : Mem) (K : Kx) : Prop where
  h : AJoin0 k0 x y fr M K
noncomputable def acode (P : Program) (J : Bool) (k0 : Nat) (c : Code) : List SV → Mem → Kx → Prop :=
  Code.rec (motive := fun _ => List SV → Mem → Kx → Prop)
    (fun fr M K => K .normal fr M)
    (fun _ ops draw fr M K => regF P ops draw fr M K)
    (fun a _ iha ihb fr M K => match J with
      | true => (match joinable a with | true => AJoin k0 iha ihb fr M K | false => iha fr M (seqK K ihb))
      | false => iha fr M (seqK K ihb))
    (fun c _ _ ihx ihy fr M K => acond (evO fr c) (ihx fr M K) (ihy fr M K))
    (fun id _ ih fr M K => ih fr M (blockK id K))
    (fun _ ih fr M K => ALoop k0 ih fr M K)
    (fun _ _ _ _ _ _ _ _ _ => False)
    (fun id fr M K => K (.exit id) fr M)
    (fun _ _ _ _ _ => False)
    (fun _ _ _ _ => False)
    (fun _ _ _ _ => False)
    (fun fr M K => K .ret fr M)
    (fun _ _ _ _ => False) c

/-! ### narrowing the names -/
def Bet.cut (β : Bet) (g : Nat) : Bet := fun n => if n < g then β n else none
section
variable {β : Bet} {g : Nat}
theorem denCp.cut {x : Value} : ∀ {c : Cp}, denCp β x c → bCp g c = true → denCp (β.cut g) x c
  | .v _, h, _ => h
  | .p n _ _, ⟨m, h, e⟩, hb => ⟨m, by simp only [bCp, Nat.blt_eq] at hb; simp [Bet.cut, hb, h], e⟩
theorem denCps.cut : ∀ {xs : List Value} {l : List Cp}, denCps β xs l → l.all (bCp g) = true → denCps (β.cut g) xs l
  | [], [], _, _ => trivial
  | _ :: _, _ :: _, ⟨h, r⟩, hb => by
    simp only [List.all_cons, Bool.and_eq_true] at hb
    exact ⟨h.cut hb.1, denCps.cut r hb.2⟩
theorem denC.cut {x : Value} : ∀ {c : C}, denC β x c → bC g c = true → denC (β.cut g) x c
  | .v _, h, _ => h
  | .p n _ _, ⟨m, h, e⟩, hb => ⟨m, by simp only [bC, Nat.blt_eq] at hb; simp [Bet.cut, hb, h], e⟩
  | .s n _ _ _, ⟨A, cap, m, h, r⟩, hb => ⟨A, cap, m, by simp only [bC, Nat.blt_eq] at hb; simp [Bet.cut, hb, h], r⟩
  | .z, h, _ => h
  | .u, _, _ => trivial
  | .f _ _ _, ⟨fs, cs, e, h, k⟩, hb => by
    simp only [bC, Bool.and_eq_true] at hb
    exact ⟨fs, cs, e, h.cut hb.1, k.cut hb.2⟩
  | .m n, ⟨m, h, e⟩, hb => ⟨m, by simp only [bC, Nat.blt_eq] at hb; simp [Bet.cut, hb, h], e⟩
theorem denL.cut : ∀ {xs : List Value} {l : List C}, denL β xs l → l.all (bC g) = true → denL (β.cut g) xs l
  | [], [], _, _ => trivial
  | _ :: _, _ :: _, ⟨h, r⟩, hb => by
    simp only [List.all_cons, Bool.and_eq_true] at hb
    exact ⟨h.cut hb.1, denL.cut r hb.2⟩
theorem den1.cut {x : Value} : ∀ {y : V1}, den1 β x y → b1 g y = true → den1 (β.cut g) x y
  | .c _, h, hb => denC.cut h hb
  | .a _, ⟨vs, e, h⟩, hb => ⟨vs, e, h.cut hb⟩
theorem denL1.cut : ∀ {xs : List Value} {l : List V1}, denL1 β xs l → l.all (b1 g) = true → denL1 (β.cut g) xs l
  | [], [], _, _ => trivial
  | _ :: _, _ :: _, ⟨h, r⟩, hb => by
    simp only [List.all_cons, Bool.and_eq_true] at hb
    exact ⟨h.cut hb.1, denL1.cut r hb.2⟩
theorem denS.cut {x : Value} : ∀ {y : SV}, denS β x y → bS g y = true → denS (β.cut g) x y
  | .o _, h, hb => den1.cut h hb
  | .t _, ⟨vs, e, h⟩, hb => ⟨vs, e, denL1.cut h hb⟩
theorem Bet.cut_top : Top (β.cut g) g := fun n hn => by simp [Bet.cut, Nat.not_lt.2 hn]
theorem Bet.cut_le : (β.cut g).le β := fun n m h => by
  unfold Bet.cut at h
  split at h
  · exact h
  · cases h
theorem bBk_at {k : Bk} (h : bBk g k) {i j : Nat} {c : C} (hc : k.at i j = some c) : bC g c = true := by
  rw [Bk.at_some] at hc
  obtain ⟨hi, hc⟩ := hc
  cases k with
  | box l =>
    simp only [Bk.row] at hc
    have := List.all_eq_true.1 h c (List.mem_of_getElem? hc)
    exact this
  | ints ki xs =>
    cases j with
    | zero => simp [Bk.row] at hc; subst hc; rfl
    | succ j => simp [Bk.row] at hc
  | bools xs =>
    cases j with
    | zero => simp [Bk.row] at hc; subst hc; rfl
    | succ j => simp [Bk.row] at hc
  | rows sz n row => exact List.all_eq_true.1 (h i hi) c (List.mem_of_getElem? hc)
  | map s es => cases hi
  | deep lo rs ov => cases hi
theorem bM_get : ∀ {G : Mem} {n : Nat} {k : Blk}, bM g G → G.get n = some k → bBk g k.k
  | [], _, _, _, h => by cases h
  | none :: l, 0, k, _, h => by cases h
  | some k' :: l, 0, k, hb, h => by simp only [Mem.get, Option.some.injEq] at h; subst h; exact hb.1
  | none :: l, n + 1, k, hb, h => bM_get (G := l) hb h
  | some k' :: l, n + 1, k, hb, h => bM_get (G := l) hb.2 h
end
theorem leM_get : ∀ {M G : Mem} {n : Nat} {k : Blk}, leM M G → G.get n = some k → M.get n = some k
  | _, [], _, _, _, h => by cases h
  | [], none :: G, 0, _, _, h => by cases h
  | [], none :: G, n + 1, k, hl, h => by have := leM_get (M := []) (G := G) hl h; cases this
  | [], some _ :: G, _, _, hl, _ => hl.elim
  | _ :: M, none :: G, 0, _, _, h => by cases h
  | _ :: M, none :: G, n + 1, k, hl, h => leM_get (M := M) (G := G) hl h
  | m :: M, some g :: G, 0, k, hl, h => by simp only [Mem.get, Option.some.injEq] at h; subst h; exact hl.1
  | m :: M, some g :: G, n + 1, k, hl, h => leM_get (M := M) (G := G) hl.2 h

theorem Bk.Eqv.at {k k' : Bk} (h : Bk.Eqv k k') {i j : Nat} {c : C} (hc : k'.at i j = some c) : k.at i j = some c := by
  obtain ⟨_, _, _, hn, hr⟩ := h
  rw [Bk.at_some] at hc ⊢
  exact ⟨by omega, by rw [hr i hc.1]; exact hc.2⟩
theorem Bk.need_nobox {k : Bk} (h : k.isBox = false) : k.need = k.n * k.sz := by cases k <;> first | rfl | cases h
theorem holds.eqv {w : World} {β : Bet} {m : Nm} {k g : Blk} (h : holds w β m k) (hw : g.wr = true → k.wr = true) (he : Bk.Eqv k.k g.k) : holds w β m g := by
  obtain ⟨hb, hb', hsz, hn, hr⟩ := id he
  refine ⟨?_, ?_, fun _ => (h.there (Bk.noMap_of_box hb)).imp id fun ⟨c, T, fz, h1, h2, h3, h4⟩ => ⟨c, T, fz, h1, h2, fun hg => h3 (hw hg), fun i j x hx => h4 i j x (he.at hx)⟩, fun s es hs => (by rw [hs] at hb'; cases hb'), fun lo rs ov hs => (by rw [hs] at hb'; cases hb')⟩
  · rcases h.fits with hf | ⟨e1, e2, e3⟩
    · rw [hb] at hf; cases hf
    · exact .inr ⟨by rw [← hsz]; exact e1, by rw [← hsz]; exact e2, fun i hi => by rw [← hr i hi, ← hsz]; exact e3 i (by omega)⟩
  · have := h.need
    rw [Bk.need_nobox hb] at this
    rw [Bk.need_nobox hb', ← hsz]
    exact Nat.le_trans (Nat.mul_le_mul_right _ hn) this
theorem leB_conv {m : Option Blk} {g : Blk} (h : leB m g) : ∃ k, m = some k ∧ (g.wr = true → k.wr = true) ∧ (∀ (w : World) (β : Bet) (nm : Nm), holds w β nm k → holds w β nm g) ∧ ∀ (w : World) (nm : Nm) (b : Nat), ownB w nm g.k b → ownB w nm k.k b := by
  rcases h with rfl | ⟨k, rfl, hw, he⟩
  · exact ⟨g, rfl, id, fun _ _ _ h => h, fun _ _ _ h => h⟩
  · exact ⟨k, rfl, hw, fun _ _ _ h => h.eqv hw he, fun _ _ _ h => .inl (h.plain (Bk.noMap_of_box he.2.1))⟩

theorem mkFr_length : ∀ (n i : Nat) (L : List (Nat × SV)), (mkFr i n L).length = n
  | 0, _, _ => rfl
  | n + 1, i, L => congrArg (· + 1) (mkFr_length n (i + 1) L)
theorem mkFr_get : ∀ (n i : Nat) (L : List (Nat × SV)) (t : Nat), frGet (mkFr i n L) t = if t < n then lk L (i + t) else .o (.c .u)
  | 0, _, _, t => by simp [mkFr, frGet]
  | n + 1, i, L, 0 => by simp [mkFr, frGet]
  | n + 1, i, L, t + 1 => by
    have := mkFr_get n (i + 1) L t
    simp only [mkFr, frGet, this, Nat.add_lt_add_iff_right]
    rw [show i + 1 + t = i + (t + 1) by omega]
/-! ### names taken anew: what they stand for -/
def betR (β : Bet) (rn : Rns) (g : Nat) : Bet := fun n => if n < g then (match rnG rn n with | .to n' => β n' | .new sz => some ⟨0, 0, sz, 0⟩) else none
theorem betR_to {β : Bet} {rn : Rns} {g n n' : Nat} (hn : n < g) (h : rnG rn n = .to n') : betR β rn g n = β n' := by simp [betR, hn, h]
theorem betR_new {β : Bet} {rn : Rns} {g n sz : Nat} (hn : n < g) (h : rnG rn n = .new sz) : betR β rn g n = some ⟨0, 0, sz, 0⟩ := by simp [betR, hn, h]
theorem betR_top {β : Bet} {rn : Rns} {g : Nat} : Top (betR β rn g) g := fun n hn => by simp [betR, Nat.not_lt.2 hn]
section
variable {β : Bet} {rn : Rns} {g : Nat}
theorem denCp_ex {x : Value} : ∀ {c : Cp}, okCp rn c = true → bCp g c = true → denCp β x (exCp rn c) → denCp (betR β rn g) x c
  | .v _, _, _, h => h
  | .p n i j, ho, hb, h => by
    simp only [bCp, Nat.blt_eq] at hb
    simp only [okCp] at ho
    cases hr : rnG rn n with
    | to n' =>
      simp only [exCp, hr] at h
      obtain ⟨m, hm, e⟩ := h
      exact ⟨m, by rw [betR_to hb hr]; exact hm, e⟩
    | new sz => rw [hr] at ho; cases ho
theorem denCps_ex : ∀ {xs : List Value} {l : List Cp}, l.all (okCp rn) = true → l.all (bCp g) = true → denCps β xs (l.map (exCp rn)) → denCps (betR β rn g) xs l
  | [], [], _, _, _ => trivial
  | _ :: _, _ :: _, ho, hb, ⟨h, r⟩ => by
    simp only [List.all_cons, Bool.and_eq_true] at ho hb
    exact ⟨denCp_ex ho.1 hb.1 h, denCps_ex ho.2 hb.2 r⟩
  | [], _ :: _, _, _, h => h.elim
  | _ :: _, [], _, _, h => h.elim
theorem denC_ex {x : Value} : ∀ {c : C}, okC rn c = true → bC g c = true → denC β x (exC rn c) → denC (betR β rn g) x c
  | .v _, _, _, h => h
  | .p n i j, ho, hb, h => by
    simp only [bC, Nat.blt_eq] at hb
    simp only [okC] at ho
    cases hr : rnG rn n with
    | to n' =>
      simp only [exC, hr] at h
      obtain ⟨m, hm, e⟩ := h
      exact ⟨m, by rw [betR_to hb hr]; exact hm, e⟩
    | new sz => rw [hr] at ho; cases ho
  | .s n off len sz, ho, hb, h => by
    simp only [bC, Nat.blt_eq] at hb
    cases hr : rnG rn n with
    | to n' =>
      simp only [exC, hr] at h
      obtain ⟨A, cap, m, hm, r⟩ := h
      exact ⟨A, cap, m, by rw [betR_to hb hr]; exact hm, r⟩
    | new s =>
      simp only [okC, hr, Bool.and_eq_true] at ho
      obtain rfl := Nat.eq_of_beq_eq_true ho.1
      obtain rfl := Nat.eq_of_beq_eq_true ho.2
      simp only [exC, hr] at h
      have h' : x = .slice none 0 0 := h
      exact ⟨none, 0, _, betR_new hb hr, h', rfl, Nat.le_refl _, Nat.zero_le _, .inl rfl⟩
  | .z, _, _, h => h
  | .u, _, _, _ => trivial
  | .f _ _ _, ho, hb, ⟨fs, cs, e, h, k⟩ => by
    simp only [okC, bC, Bool.and_eq_true] at ho hb
    exact ⟨fs, cs, e, denCps_ex ho.1 hb.1 h, denCps_ex ho.2 hb.2 k⟩
  | .m n, ho, hb, h => by
    simp only [bC, Nat.blt_eq] at hb
    simp only [okC] at ho
    cases hr : rnG rn n with
    | to n' =>
      simp only [exC, hr] at h
      obtain ⟨m, hm, e⟩ := h
      exact ⟨m, by rw [betR_to hb hr]; exact hm, e⟩
    | new sz => rw [hr] at ho; cases ho
theorem denL_ex : ∀ {xs : List Value} {l : List C}, l.all (okC rn) = true → l.all (bC g) = true → denL β xs (l.map (exC rn)) → denL (betR β rn g) xs l
  | [], [], _, _, _ => trivial
  | _ :: _, _ :: _, ho, hb, ⟨h, r⟩ => by
    simp only [List.all_cons, Bool.and_eq_true] at ho hb
    exact ⟨denC_ex ho.1 hb.1 h, denL_ex ho.2 hb.2 r⟩
  | [], _ :: _, _, _, h => h.elim
  | _ :: _, [], _, _, h => h.elim
theorem den1_ex {x : Value} : ∀ {y : V1}, ok1 rn y = true → b1 g y = true → den1 β x (ex1 rn y) → den1 (betR β rn g) x y
  | .c _, ho, hb, h => denC_ex ho hb h
  | .a _, ho, hb, ⟨vs, e, h⟩ => ⟨vs, e, denL_ex ho hb h⟩
theorem denL1_ex : ∀ {xs : List Value} {l : List V1}, l.all (ok1 rn) = true → l.all (b1 g) = true → denL1 β xs (l.map (ex1 rn)) → denL1 (betR β rn g) xs l
  | [], [], _, _, _ => trivial
  | _ :: _, _ :: _, ho, hb, ⟨h, r⟩ => by
    simp only [List.all_cons, Bool.and_eq_true] at ho hb
    exact ⟨den1_ex ho.1 hb.1 h, denL1_ex ho.2 hb.2 r⟩
  | [], _ :: _, _, _, h => h.elim
  | _ :: _, [], _, _, h => h.elim
theorem denS_ex {x : Value} : ∀ {y : SV}, okS rn y = true → bS g y = true → denS β x (exS rn y) → denS (betR β rn g) x y
  | .o _, ho, hb, h => den1_ex ho hb h
  | .t _, ho, hb, ⟨vs, e, h⟩ => ⟨vs, e, denL1_ex ho hb h⟩
theorem exBk_at (k : Bk) (i j : Nat) : (exBk rn k).at i j = (k.at i j).map (exC rn) := by
  unfold Bk.at
  cases k with
  | box l => by_cases h : i < 1 <;> simp [exBk, Bk.n, Bk.row, h]
  | ints ki xs =>
    by_cases h : i < xs.length
    · cases j with
      | zero => simp [exBk, Bk.n, Bk.row, h, exC]
      | succ j => simp [exBk, Bk.n, Bk.row, h]
    · simp [exBk, Bk.n, h]
  | bools xs =>
    by_cases h : i < xs.length
    · cases j with
      | zero => simp [exBk, Bk.n, Bk.row, h, exC]
      | succ j => simp [exBk, Bk.n, Bk.row, h]
    · simp [exBk, Bk.n, h]
  | rows sz n row => by_cases h : i < n <;> simp [exBk, Bk.n, Bk.row, h]
  | map s es => simp [exBk, Bk.n]
  | deep lo rs ov => simp [exBk, Bk.n]
theorem exBk_map {k : Bk} {s : MK} {es : List (List Int × Value)} : exBk rn k = .map s es ↔ k = .map s es := by cases k <;> simp [exBk]
theorem exBk_noMap (k : Bk) : (exBk rn k).isMap = k.isMap := by cases k <;> rfl
theorem exBk_need (k : Bk) : (exBk rn k).need = k.need := by
  cases k with
  | deep lo rs ov => cases ov with
    | none => rfl
    | some p => rfl
  | _ => simp [exBk, Bk.need, Bk.n, Bk.sz]
theorem exBk_fits (k : Bk) (s : Nat) : (exBk rn k).fits s ↔ k.fits s := by
  cases k with
  | box l => exact ⟨fun _ => .inl rfl, fun _ => .inl rfl⟩
  | map s es => exact Iff.rfl
  | deep lo rs ov => exact ⟨fun _ => .inl rfl, fun _ => .inl rfl⟩
  | ints ki xs => exact Iff.rfl
  | bools xs => exact Iff.rfl
  | rows sz n row =>
    simp [Bk.fits, exBk, Bk.isBox, Bk.sz, Bk.n, Bk.row]
theorem okBk_at {k : Bk} (h : okBk rn k) {i j : Nat} {c : C} (hc : k.at i j = some c) : okC rn c = true := by
  rw [Bk.at_some] at hc
  obtain ⟨hi, hc⟩ := hc
  cases k with
  | box l =>
    simp only [Bk.row] at hc
    exact List.all_eq_true.1 h c (List.mem_of_getElem? hc)
  | ints ki xs =>
    cases j with
    | zero => simp [Bk.row] at hc; subst hc; rfl
    | succ j => simp [Bk.row] at hc
  | bools xs =>
    cases j with
    | zero => simp [Bk.row] at hc; subst hc; rfl
    | succ j => simp [Bk.row] at hc
  | rows sz n row => exact List.all_eq_true.1 (h i hi) c (List.mem_of_getElem? hc)
  | map s es => cases hi
  | deep lo rs ov => cases hi
theorem exBk_own {w : World} {m : Nm} {k : Bk} {b : Nat} : ownB w m (exBk rn k) b ↔ ownB w m k b := by
  unfold ownB
  refine or_congr Iff.rfl ?_
  cases k with
  | deep lo rs ov =>
    have key : ∀ i xs, isOwn lo rs (match ov with | some (j, c) => some (j, exC rn c) | none => none) i xs ↔ isOwn lo rs ov i xs := by
      intro i xs
      unfold isOwn
      refine and_congr Iff.rfl ?_
      cases ov with
      | none => simp
      | some p => obtain ⟨j, c⟩ := p; simp
    constructor
    · rintro ⟨lo', rs', ov', i, e, ⟨xs, hx⟩, r⟩
      simp only [exBk, Bk.deep.injEq] at e
      obtain ⟨rfl, rfl, rfl⟩ := e
      exact ⟨_, _, _, i, rfl, ⟨xs, (key i xs).1 hx⟩, r⟩
    · rintro ⟨lo', rs', ov', i, e, ⟨xs, hx⟩, r⟩
      cases e
      exact ⟨_, _, _, i, rfl, ⟨xs, (key i xs).2 hx⟩, r⟩
  | _ => constructor <;> (rintro ⟨lo', rs', ov', i, e, _⟩; cases e)
theorem holds_ex {w : World} {m : Nm} {k : Blk} (ho : okBk rn k.k) (hb : bBk g k.k) (h : holds w β m (exB rn k)) : holds w (betR β rn g) m k := by
  refine ⟨(exBk_fits k.k m.sz).1 h.fits, by rw [← exBk_need (rn := rn)]; exact h.need, fun hk => (h.there ((exBk_noMap k.k).trans hk)).imp id fun ⟨c, T, fz, h1, h2, h3, h4⟩ => ⟨c, T, fz, h1, h2, h3, fun i j x hx => (by
      obtain ⟨y, hy, hd⟩ := h4 i j (exC rn x) (by show (exBk rn k.k).at i j = _; rw [exBk_at, hx]; rfl)
      exact ⟨y, hy, denC_ex (okBk_at ho hx) (bBk_at hb hx) hd⟩)⟩, fun s es he => h.mth s es (exBk_map.2 he), fun lo rs ov he => ?_⟩
  · obtain ⟨k, wr⟩ := k
    have he : k = .deep lo rs ov := he
    subst he
    have hd := h.dth lo rs _ rfl
    cases ov with
    | none => exact ⟨hd.sz, hd.len, hd.lt, hd.there.imp id fun ⟨c, T, fz, h1, h2, h3, h4, h5⟩ => ⟨c, T, fz, h1, h2, h3, h4, fun j x e => by cases e⟩, hd.dist⟩
    | some p =>
      obtain ⟨j, c⟩ := p
      have key : ∀ i xs, isOwn lo rs (some (j, exC rn c)) i xs ↔ isOwn lo rs (some (j, c)) i xs := fun i xs => by unfold isOwn; simp
      have keyB : ∀ i b, rowB w m lo rs (some (j, exC rn c)) i b ↔ rowB w m lo rs (some (j, c)) i b := fun i b => by unfold rowB; simp only [key]
      refine ⟨hd.sz, hd.len, fun j' c' e => ?_, hd.there.imp id fun ⟨cs, T, fz, h1, h2, h3, h4, h5⟩ => ⟨cs, T, fz, h1, h2, h3, fun i xs hx => h4 i xs ((key i xs).2 hx), fun j' x e => (by
        cases e
        obtain ⟨y, hy, hdy⟩ := h5 j _ rfl
        exact ⟨y, hy, denC_ex ho hb hdy⟩)⟩, fun i b hb => ?_⟩
      · cases e; exact hd.lt j _ rfl
      · have := hd.dist i b ((keyB i b).2 hb)
        exact ⟨this.1, fun j' h' => this.2 j' ((keyB j' b).2 h')⟩
end
theorem AFit.lt {rn : Rns} {k0 : Nat} {fr : List SV} {M : Mem} {H : List (Nat × SV)} {G : Mem} (_ : AFit rn k0 fr M H G) {n : Nat} {k : Blk} (hk : G.get n = some k) : n < G.length := by
  rcases Nat.lt_or_ge n G.length with h' | h'
  · exact h'
  · rw [Mem.get_ge G n h'] at hk; cases hk
theorem AFit.st {rn : Rns} {k0 : Nat} {fr : List SV} {M : Mem} {H : List (Nat × SV)} {G : Mem} (a : AFit rn k0 fr M H G) {W : World} {A : Nat → Prop} {β : Bet} {w : World} (h : St W A β M w) : St W A (betR β rn G.length) G w := by
  -- a name taken anew owns nothing
  have hnew : ∀ n k m sz, G.get n = some k → rnG rn n = .new sz → betR β rn G.length n = some m → ∀ b, ¬ ownB w m k.k b := by
    intro n k m sz hk hg hm b hb
    have hf := a.m n k hk
    unfold fitB at hf
    rw [hg] at hf
    rw [betR_new (a.lt hk) hg] at hm
    cases hm
    rcases hb with ⟨h0, _⟩ | ⟨lo, rs, ov, i, e, hb⟩
    · exact absurd rfl h0
    · rw [e] at hf
      obtain ⟨rfl, _⟩ := Bk.need_deep hf.2
      exact hb.nil.elim
  refine ⟨h.os, h.tape, h.output, h.size, h.frame, fun n k hk => ?_, fun n n' k k' m m' hne hk hk' hw hm hm' b hb hb' => ?_, fun n k m hk hw hm b hb => ?_⟩
  · have hn := a.lt hk
    have hf := a.m n k hk
    unfold fitB at hf
    cases hg : rnG rn n with
    | to n' =>
      rw [hg] at hf
      obtain ⟨k0', hk0, _, hcv, _⟩ := leB_conv hf
      obtain ⟨m, hm, hh⟩ := h.names n' k0' hk0
      exact ⟨m, by rw [betR_to hn hg]; exact hm, holds_ex (a.okm n k hk) (bM_get a.bm hk) (hcv w β m hh)⟩
    | new sz =>
      rw [hg] at hf
      refine ⟨⟨0, 0, sz, 0⟩, betR_new hn hg, ⟨hf.1, by rw [hf.2]; exact Nat.le_refl _, fun _ => .inl rfl, fun s es he => (by rw [he] at hf; cases hf.2), fun lo rs ov he => ?_⟩⟩
      rw [he] at hf
      obtain ⟨hrs, hov⟩ := Bk.need_deep hf.2
      rw [hrs, hov]
      exact deepAt.zero w _ _ _ _ rfl
  · have hn := a.lt hk
    have hn' := a.lt hk'
    have hf := a.m n k hk
    have hf' := a.m n' k' hk'
    unfold fitB at hf hf'
    cases hg : rnG rn n with
    | new sz => exact hnew n k m sz hk hg hm b hb
    | to b0 =>
      cases hg' : rnG rn n' with
      | new sz => exact hnew n' k' m' sz hk' hg' hm' b hb'
      | to b0' =>
        rw [hg] at hf
        rw [hg'] at hf'
        rw [betR_to hn hg] at hm
        rw [betR_to hn' hg'] at hm'
        obtain ⟨k1, hk1, hw1, _, ho1⟩ := leB_conv hf
        obtain ⟨k1', hk1', _, _, ho1'⟩ := leB_conv hf'
        have hbb : b0 ≠ b0' := fun e => a.inj n n' k k' b0 hne hk hk' hw hg (by rw [hg', e])
        exact h.sep b0 b0' k1 k1' m m' hbb hk1 hk1' (hw1 hw) hm hm' b (ho1 w m b (exBk_own.2 hb)) (ho1' w m' b (exBk_own.2 hb'))
  · have hn := a.lt hk
    have hf := a.m n k hk
    unfold fitB at hf
    cases hg : rnG rn n with
    | new sz => exact absurd hb (hnew n k m sz hk hg hm b)
    | to b0 =>
      rw [hg] at hf
      rw [betR_to hn hg] at hm
      obtain ⟨k1, hk1, hw1, _, ho1⟩ := leB_conv hf
      exact h.perm b0 k1 m hk1 (hw1 hw) hm b (ho1 w m b (exBk_own.2 hb))
theorem AFit.frm {rn : Rns} {k0 : Nat} {fr : List SV} {M : Mem} {H : List (Nat × SV)} {G : Mem} (a : AFit rn k0 fr M H G) {β : Bet} {tmps : Array Value} {N : Nat} (h : Fr β tmps fr) (hN : N = fr.length) : Fr (betR β rn G.length) tmps (mkFr 0 N H) := by
  refine ⟨by rw [mkFr_length, h.len, hN], fun t => ?_⟩
  rw [mkFr_get]
  split
  · rw [Nat.zero_add]
    have key : ∀ (L : List (Nat × SV)), leFx rn fr L → bL G.length L = true → okF rn L = true → denS (betR β rn G.length) (tmps.getD t undef) (lk L t) := by
      intro L
      induction L with
      | nil => intro _ _ _; exact trivial
      | cons p L ih =>
        obtain ⟨s, v⟩ := p
        intro hl hb ho
        simp only [bL, okF, Bool.and_eq_true] at hb ho
        simp only [lk]
        split
        · rename_i hst
          subst hst
          have := h.den s
          rw [hl.1] at this
          exact denS_ex ho.1 hb.1 this
        · exact ih hl.2 hb.2 ho.2
    exact key H a.f a.bl a.okf
  · exact trivial

def Keep (k0 : Nat) (β β' : Bet) : Prop := ∀ n, n < k0 → β' n = β n
theorem Keep.of_le {k0 : Nat} {β β' : Bet} (h : β.le β') (hd : ∀ n, n < k0 → β n ≠ none) : Keep k0 β β' := fun n hn => by
  cases hb : β n with
  | none => exact absurd hb (hd n hn)
  | some m => exact h n m hb

/-- the post of a body, as seen by the code -/
def AX.to : AX → Exit
  | .normal => .normal
  | .exit n => .exit n
  | .ret => .ret
  | .pan v => .panic [{ v, recovered := false }]

theorem text_len {P : Program} {ops : Array Oper} {draw : Bool} : ∀ (l : List Oper) (fr : List SV) (M : Mem) (rs : List Rec) (fr' : List SV) (M' : Mem), Text P ops draw l fr M rs fr' M' → M.length ≤ M'.length
  | [], _, M, [], _, M', h => by rw [h.2]; exact Nat.le_refl _
  | o :: l, fr, M, r :: rs, fr', M', h => Nat.le_trans (Mem.app_length r.ups M).1 (text_len l _ _ rs _ _ h.2.2)
  | [], _, _, _ :: _, _, _, h => h.elim
  | _ :: _, _, _, [], _, _, h => h.elim

theorem text_flen {P : Program} {ops : Array Oper} {draw : Bool} : ∀ (l : List Oper) (fr : List SV) (M : Mem) (rs : List Rec) (fr' : List SV) (M' : Mem), Text P ops draw l fr M rs fr' M' → fr'.length = fr.length
  | [], fr, _, [], _, _, h => by rw [h.1]
  | o :: l, fr, M, r :: rs, fr', M', h => by rw [text_flen l _ _ rs _ _ h.2.2, frPut_length]
  | [], _, _, _ :: _, _, _, h => h.elim
  | _ :: _, _, _, [], _, _, h => h.elim

theorem wp_loop_of {X : Type} {P : Program} {c : Code} {Q : Exit → Act → World → Prop} (I : X → Act → World → Prop) (μ : X → Nat)
    (round : ∀ x a w, I x a w → c.wp P (Exit.then (fun a' w' => ∃ x', I x' a' w' ∧ μ x' < μ x) Q) a w) {x0 : X} {a : Act} {w : World} (h₀ : I x0 a w) : (Code.loop c).wp P Q a w := by
  intro b k cs
  have key : ∀ n x a w, μ x = n → I x a w → ∃ e a' w', Q e a' w' ∧ Arrives P (lone (b.at a (.code c :: .inLoop c :: k)) cs w) b k cs e a' w' := by
    intro n
    induction n using Nat.strongRecOn with
    | _ n ih =>
      intro x a w hn hI
      obtain ⟨e, a₁, w₁, hq, harr⟩ := round x a w hI b (.inLoop c :: k) cs
      cases e with
      | normal =>
        obtain ⟨x', hI₁, hlt⟩ := hq
        obtain ⟨e₂, a₂, w₂, hq₂, harr₂⟩ := ih (μ x') (hn ▸ hlt) x' a₁ w₁ rfl hI₁
        exact ⟨e₂, a₂, w₂, hq₂, .of_steps (Steps.trans harr (.one step_inLoop)) harr₂⟩
      | exit id => exact ⟨_, a₁, w₁, hq, .pass (x := .inLoop c) rfl (fun _ _ => .inl (by simp)) harr⟩
      | goto l => exact ⟨_, a₁, w₁, hq, .pass (x := .inLoop c) rfl (fun _ _ => .inl (by simp)) harr⟩
      | ret => exact ⟨_, a₁, w₁, hq, .pass (x := .inLoop c) rfl (fun _ _ => .inl (by simp)) harr⟩
      | panic ch => exact ⟨_, a₁, w₁, hq, .pass (x := .inLoop c) rfl (fun _ _ => .inl (by simp)) harr⟩
      | outgrown => exact ⟨_, a₁, w₁, hq, .pass (x := .inLoop c) rfl (fun _ _ => .inl (by simp)) harr⟩
  obtain ⟨e, a', w', hq, harr⟩ := key _ x0 a w rfl h₀
  exact ⟨e, a', w', hq, .of_steps (.one step_loop) harr⟩

structure Abs (W : World) (A : Nat → Prop) (T : Nat) (k0 : Nat) (β0 : Bet) (ds : List Deferred) (fr : List SV) (M : Mem) (β : Bet) (a : Act) (w : World) : Prop where
  flen : fr.length = T
  keep : Keep k0 β0 β
  st : St W A β M w
  fr : Fr β a.tmps fr
  top : Top β M.length
  len : k0 ≤ M.length
  ds : a.defers = ds

/-- the abstract run as a relation -/
def AForget (k0 : Nat) (fr : List SV) (M : Mem) (fr2 : List SV) (M2 : Mem) : Prop :=
  ∃ (H : List (Nat × SV)), AFitM k0 fr M H M2 ∧ fr2 = mkFr 0 fr.length H
abbrev RelA := List SV → Mem → AX → List SV → Mem → Prop
inductive ALp (k0 : Nat) (R : RelA) : RelA where
  | out {fr M e fr' M'} : R fr M e fr' M' → e ≠ .normal → ALp k0 R fr M e fr' M'
  | again {fr M fr1 M1 fr2 M2 e fr' M'} : R fr M .normal fr1 M1 → AForget k0 fr1 M1 fr2 M2 → ALp k0 R fr2 M2 e fr' M' → ALp k0 R fr M e fr' M'
def exId (id : Nat) : AX → AX
  | .exit i => if i = id then .normal else .exit i
  | e => e
def ARun (P : Program) (k0 : Nat) : Code → RelA
  | .skip => fun fr M e fr' M' => e = .normal ∧ fr' = fr ∧ M' = M
  | .region _ ops draw => fun fr M e fr' M' => (e = .normal ∧ ∃ rs, Text P ops draw ops.toList fr M rs fr' M' ∧ (draw = true → okOrder ops rs = true)) ∨
      ∃ v l o rs, e = .pan v ∧ ops.toList = l ++ [o] ∧ o.guard = none ∧ Text P ops draw l fr M rs fr' M' ∧ (draw = true → okOrder ops (rs ++ [Rec.dum]) = true ∧ okLast ops = true) ∧ PanOp P o fr' v
  | .seq a b => fun fr M e fr' M' => (ARun P k0 a fr M e fr' M' ∧ e ≠ .normal) ∨
      ∃ fr1 M1 fr2 M2, ARun P k0 a fr M .normal fr1 M1 ∧ ((fr2 = fr1 ∧ M2 = M1) ∨ AForget k0 fr1 M1 fr2 M2) ∧ ARun P k0 b fr2 M2 e fr' M'
  | .cond c x y => fun fr M e fr' M' => (evO fr c = boo true ∧ ARun P k0 x fr M e fr' M') ∨ (evO fr c = boo false ∧ ARun P k0 y fr M e fr' M')
  | .block id b => fun fr M e fr' M' => ∃ e0, ARun P k0 b fr M e0 fr' M' ∧ e = exId id e0
  | .loop b => fun fr M e fr' M' => ∃ fr0 M0, AForget k0 fr M fr0 M0 ∧ ALp k0 (ARun P k0 b) fr0 M0 e fr' M'
  | .exit id => fun fr M e fr' M' => e = .exit id ∧ fr' = fr ∧ M' = M
  | .ret => fun fr M e fr' M' => e = .ret ∧ fr' = fr ∧ M' = M
  | _ => fun _ _ _ _ _ => False

theorem AForget.flen {k0 : Nat} {fr fr2 : List SV} {M M2 : Mem} (h : AForget k0 fr M fr2 M2) : fr2.length = fr.length := by
  obtain ⟨H, _, rfl⟩ := h
  exact mkFr_length _ _ _
theorem ALp.flen {k0 : Nat} {R : RelA} (hR : ∀ fr M e fr' M', R fr M e fr' M' → fr'.length = fr.length) {fr M e fr' M'} (h : ALp k0 R fr M e fr' M') : fr'.length = fr.length := by
  induction h with
  | out h _ => exact hR _ _ _ _ _ h
  | again h hf _ ih => rw [ih, hf.flen, hR _ _ _ _ _ h]
theorem ARun_flen {P : Program} {k0 : Nat} : ∀ (c : Code) (fr : List SV) (M : Mem) (e : AX) (fr' : List SV) (M' : Mem), ARun P k0 c fr M e fr' M' → fr'.length = fr.length := by
  intro c
  induction c with
  | skip => intro fr M e fr' M' h; rw [h.2.1]
  | region id ops draw =>
    intro fr M e fr' M' h
    rcases h with ⟨_, rs, ht, _⟩ | ⟨v, l, o, rs, _, _, _, ht, _⟩
    · exact text_flen _ _ _ _ _ _ ht
    · exact text_flen _ _ _ _ _ _ ht
  | seq a b iha ihb =>
    intro fr M e fr' M' h
    rcases h with ⟨h, _⟩ | ⟨fr1, M1, fr2, M2, h1, h2, h3⟩
    · exact iha _ _ _ _ _ h
    · rw [ihb _ _ _ _ _ h3, ← iha _ _ _ _ _ h1]
      rcases h2 with ⟨rfl, _⟩ | h2
      · rfl
      · exact h2.flen
  | cond c x y ihx ihy =>
    intro fr M e fr' M' h
    rcases h with ⟨_, h⟩ | ⟨_, h⟩
    · exact ihx _ _ _ _ _ h
    · exact ihy _ _ _ _ _ h
  | block id b ih => intro fr M e fr' M' h; obtain ⟨e0, h, _⟩ := h; exact ih _ _ _ _ _ h
  | loop b ih => intro fr M e fr' M' h; obtain ⟨fr0, M0, hf, h⟩ := h; rw [h.flen ih, hf.flen]
  | exit id => intro fr M e fr' M' h; rw [h.2.1]
  | ret => intro fr M e fr' M' h; rw [h.2.1]
  | rangeFunc => intro fr M e fr' M' h; exact h.elim
  | scope => intro fr M e fr' M' h; exact h.elim
  | label => intro fr M e fr' M' h; exact h.elim
  | goto => intro fr M e fr' M' h; exact h.elim
  | refuse => intro fr M e fr' M' h; exact h.elim

/-- THE RUN IS FIXED: what follows holds of one end -/
theorem acode_rel {P : Program} {J : Bool} {k0 : Nat} : ∀ (c : Code) (fr : List SV) (M : Mem) (K : Kx), acode P J k0 c fr M K → ∃ e fr' M', ARun P k0 c fr M e fr' M' ∧ K e fr' M' := by
  intro c
  induction c with
  | skip => exact fun fr M K h => ⟨.normal, fr, M, ⟨rfl, rfl, rfl⟩, h⟩
  | region id ops draw =>
    intro fr M K h
    have plain : regN P ops draw fr M K → ∃ e fr' M', ARun P k0 (.region id ops draw) fr M e fr' M' ∧ K e fr' M' := fun h => by
      cases draw with
      | true =>
        obtain ⟨rs', fr', M', ht, hok, hk⟩ := runF_text _ _ _ _ _ h
        rw [List.reverse_nil, List.nil_append, okOrder_light] at hok
        exact ⟨.normal, fr', M', .inl ⟨rfl, rs', ht, fun _ => hok⟩, hk⟩
      | false =>
        obtain ⟨rs', fr', M', ht, hk⟩ := runF_text _ _ _ _ _ h
        exact ⟨.normal, fr', M', .inl ⟨rfl, rs', ht, fun h => by cases h⟩, hk⟩
    replace h : regF P ops draw fr M K := h
    unfold regF at h
    cases hmp : mayPan ops with
    | false => rw [hmp] at h; exact plain h
    | true =>
      rw [hmp] at h
      rcases h.h with h | ⟨_, h⟩
      · exact plain h
      · unfold panF at h
        split at h
        · rename_i o ho
          have hL := init_last _ _ ho
          have hg : o.guard = none := by
            unfold mayPan at hmp
            rw [ho] at hmp
            simp only at hmp
            split at hmp
            · split at hmp
              · split at hmp
                · assumption
                · cases hmp
              · cases hmp
            · cases hmp
          obtain ⟨rs', fr', M', ht, hk⟩ := runF_text _ _ _ _ _ h
          rw [List.reverse_nil, List.nil_append] at hk
          cases draw with
          | true =>
            obtain ⟨hok, hlast, v, hp, hk⟩ := hk
            refine ⟨.pan v, fr', M', .inr ⟨v, _, o, rs', rfl, hL, hg, ht, fun _ => ⟨?_, hlast⟩, panS_sound hp⟩, hk⟩
            rw [← okOrder_light, List.map_append]
            exact hok
          | false =>
            obtain ⟨v, hp, hk⟩ := hk
            exact ⟨.pan v, fr', M', .inr ⟨v, _, o, rs', rfl, hL, hg, ht, fun h => (by cases h), panS_sound hp⟩, hk⟩
        · exact h.elim
  | seq x y ihx ihy =>
    intro fr M K h
    have plain : acode P J k0 x fr M (seqK K (acode P J k0 y)) → ∃ e fr' M', ARun P k0 (x.seq y) fr M e fr' M' ∧ K e fr' M' := fun h => by
      obtain ⟨e, fr1, M1, h1, hk⟩ := ihx fr M _ h
      cases e with
      | normal =>
        obtain ⟨e, fr', M', h2, hk⟩ := ihy fr1 M1 K hk
        exact ⟨e, fr', M', .inr ⟨fr1, M1, fr1, M1, h1, .inl ⟨rfl, rfl⟩, h2⟩, hk⟩
      | exit n => exact ⟨.exit n, fr1, M1, .inl ⟨h1, by simp⟩, hk⟩
      | ret => exact ⟨.ret, fr1, M1, .inl ⟨h1, by simp⟩, hk⟩
      | pan v => exact ⟨.pan v, fr1, M1, .inl ⟨h1, by simp⟩, hk⟩
    cases J with
    | false => exact plain h
    | true =>
      replace h : (match joinable x with | true => AJoin k0 (acode P true k0 x) (acode P true k0 y) fr M K | false => acode P true k0 x fr M (seqK K (acode P true k0 y))) := h
      cases hj : joinable x with
      | false => rw [hj] at h; exact plain h
      | true =>
        rw [hj] at h
        rcases h.h with h | ⟨X, inv, N, H, G, at', hN, hat, hx, hy⟩
        · exact plain h
        · obtain ⟨e, fr1, M1, h1, hk⟩ := ihx fr M _ hx
          cases e with
          | normal =>
            obtain ⟨x', hx', hat'⟩ := hk
            have hf := hat _ _ _ hat'
            obtain ⟨e, fr', M', h2, hk⟩ := ihy _ _ K (hy x' hx')
            exact ⟨e, fr', M', .inr ⟨fr1, M1, _, _, h1, .inr ⟨H x', hf, by rw [hN, ARun_flen _ _ _ _ _ _ h1]⟩, h2⟩, hk⟩
          | exit n => exact ⟨.exit n, fr1, M1, .inl ⟨h1, by simp⟩, hk⟩
          | ret => exact ⟨.ret, fr1, M1, .inl ⟨h1, by simp⟩, hk⟩
          | pan v => exact ⟨.pan v, fr1, M1, .inl ⟨h1, by simp⟩, hk⟩
  | cond c x y ihx ihy =>
    intro fr M K h
    replace h : acond (evO fr c) (acode P J k0 x fr M K) (acode P J k0 y fr M K) := h
    simp only [acond] at h
    split at h
    · rename_i b hb
      cases b with
      | true => obtain ⟨e, fr', M', h1, hk⟩ := ihx fr M K h; exact ⟨e, fr', M', .inl ⟨hb, h1⟩, hk⟩
      | false => obtain ⟨e, fr', M', h1, hk⟩ := ihy fr M K h; exact ⟨e, fr', M', .inr ⟨hb, h1⟩, hk⟩
    · exact h.elim
  | block id b ih =>
    intro fr M K h
    obtain ⟨e, fr', M', h1, hk⟩ := ih fr M _ h
    refine ⟨exId id e, fr', M', ⟨e, h1, rfl⟩, ?_⟩
    cases e with
    | normal => exact hk
    | ret => exact hk
    | pan v => exact hk
    | exit n =>
      replace hk : (if n = id then K .normal fr' M' else K (.exit n) fr' M') := hk
      show K (if n = id then .normal else .exit n) fr' M'
      split
      · rename_i he; rw [if_pos he] at hk; exact hk
      · rename_i he; rw [if_neg he] at hk; exact hk
  | exit id => exact fun fr M K h => ⟨.exit id, fr, M, ⟨rfl, rfl, rfl⟩, h⟩
  | ret => exact fun fr M K h => ⟨.ret, fr, M, ⟨rfl, rfl, rfl⟩, h⟩
  | loop b ih =>
    intro fr M K h
    obtain ⟨X, inv, N, H, G, μ, at', x0, hN, hx0, hat, hat0, hround⟩ := h.h
    have hf0 := hat _ _ _ hat0
    have key : ∀ n x, μ x = n → inv x → ∃ e fr' M', ALp k0 (ARun P k0 b) (mkFr 0 N (H x)) (G x) e fr' M' ∧ K e fr' M' := by
      intro n
      induction n using Nat.strongRecOn with
      | _ n ihn =>
        intro x hn hx
        obtain ⟨e, fr1, M1, h1, hk⟩ := ih _ _ _ (hround x hx)
        cases e with
        | normal =>
          obtain ⟨x', ⟨hx', hlt⟩, hat'⟩ := hk
          have hf := hat _ _ _ hat'
          obtain ⟨e, fr', M', h2, hk⟩ := ihn (μ x') (hn ▸ hlt) x' rfl hx'
          have hl : fr1.length = N := by rw [ARun_flen _ _ _ _ _ _ h1, mkFr_length]
          exact ⟨e, fr', M', .again h1 ⟨H x', hf, by rw [hl]⟩ h2, hk⟩
        | exit n => exact ⟨.exit n, fr1, M1, .out h1 (by simp), hk⟩
        | ret => exact ⟨.ret, fr1, M1, .out h1 (by simp), hk⟩
        | pan v => exact ⟨.pan v, fr1, M1, .out h1 (by simp), hk⟩
    obtain ⟨e, fr', M', h1, hk⟩ := key _ x0 rfl hx0
    exact ⟨e, fr', M', ⟨_, _, ⟨H x0, hf0, by rw [hN]⟩, h1⟩, hk⟩
  | rangeFunc => intro fr M K h; exact h.elim
  | scope => intro fr M K h; exact h.elim
  | label => intro fr M K h; exact h.elim
  | goto => intro fr M K h; exact h.elim
  | refuse => intro fr M K h; exact h.elim

/-- in a round of a loop -/
def inL (P : Program) (c : Code) (Q : Exit → Act → World → Prop) (a : Act) (w : World) : Prop :=
  ∀ b k cs, ∃ e a' w', Q e a' w' ∧ Arrives P (lone (b.at a (.code c :: .inLoop c :: k)) cs w) b k cs e a' w'
theorem inL_step {P : Program} {c : Code} {Q : Exit → Act → World → Prop} {a : Act} {w : World} (h : c.wp P (Exit.then (fun a' w' => inL P c Q a' w') Q) a w) : inL P c Q a w := by
  intro b k cs
  obtain ⟨e, a₁, w₁, hq, harr⟩ := h b (.inLoop c :: k) cs
  cases e with
  | normal =>
    obtain ⟨e₂, a₂, w₂, hq₂, harr₂⟩ := hq b k cs
    exact ⟨e₂, a₂, w₂, hq₂, .of_steps (Steps.trans harr (.one step_inLoop)) harr₂⟩
  | exit id => exact ⟨_, a₁, w₁, hq, .pass (x := .inLoop c) rfl (fun _ _ => .inl (by simp)) harr⟩
  | goto l => exact ⟨_, a₁, w₁, hq, .pass (x := .inLoop c) rfl (fun _ _ => .inl (by simp)) harr⟩
  | ret => exact ⟨_, a₁, w₁, hq, .pass (x := .inLoop c) rfl (fun _ _ => .inl (by simp)) harr⟩
  | panic ch => exact ⟨_, a₁, w₁, hq, .pass (x := .inLoop c) rfl (fun _ _ => .inl (by simp)) harr⟩
  | outgrown => exact ⟨_, a₁, w₁, hq, .pass (x := .inLoop c) rfl (fun _ _ => .inl (by simp)) harr⟩
theorem wp_of_inL {P : Program} {c : Code} {Q : Exit → Act → World → Prop} {a : Act} {w : World} (h : inL P c Q a w) : (Code.loop c).wp P Q a w := by
  intro b k cs
  obtain ⟨e, a', w', hq, harr⟩ := h b k cs
  exact ⟨e, a', w', hq, .of_steps (.one step_loop) harr⟩

theorem Abs.forget {W : World} {A : Nat → Prop} {T k0 : Nat} {β0 : Bet} {ds : List Deferred} {fr fr2 : List SV} {M M2 : Mem} {β : Bet} {a : Act} {w : World}
    (ab : Abs W A T k0 β0 ds fr M β a w) (h : AForget k0 fr M fr2 M2) : ∃ β', Abs W A T k0 β0 ds fr2 M2 β' a w := by
  obtain ⟨H, ⟨M', rn, hM, a⟩, rfl⟩ := h
  exact ⟨betR β rn M2.length, by rw [mkFr_length]; exact ab.flen, fun n hn => by rw [betR_to (Nat.lt_of_lt_of_le hn a.len) (a.idle n hn)]; exact ab.keep n hn, a.st (hM.st _ _ _ _ ab.st), a.frm ab.fr rfl, betR_top, a.len, ab.ds⟩

theorem ARun_sound {P : Program} (hm : P.follows .mixedOrders = true) {k0 : Nat} {W : World} {A : Nat → Prop} {T : Nat} {β0 : Bet} {ds : List Deferred} (h0 : ∀ n, n < k0 → β0 n ≠ none) :
    ∀ (c : Code) (fr : List SV) (M : Mem) (e : AX) (fr' : List SV) (M' : Mem) (β : Bet) (a : Act) (w : World) (Q : Exit → Act → World → Prop),
    ARun P k0 c fr M e fr' M' → Abs W A T k0 β0 ds fr M β a w →
    (∀ β' a' w', Abs W A T k0 β0 ds fr' M' β' a' w' → Q e.to a' w') → c.wp P Q a w := by
  have keepTrans : ∀ {β β' : Bet}, Keep k0 β0 β → β.le β' → Keep k0 β0 β' := fun {β β'} hk hl n hn => by
    rw [← hk n hn]
    have := h0 n hn
    rw [← hk n hn] at this
    cases hb : β n with
    | none => exact absurd hb this
    | some m => exact hl n m hb
  intro c
  induction c with
  | skip => intro fr M e fr' M' β a w Q h ab hQ; obtain ⟨rfl, rfl, rfl⟩ := h; exact wp_skip (hQ β a w ab)
  | region id ops draw =>
    intro fr M e fr' M' β a w Q h ab hQ
    rcases h with ⟨rfl, rs', ht, hok⟩ | ⟨v, l, o, rs', rfl, hL, hg, ht, hok, hp⟩
    · cases draw with
      | true =>
        exact region_draw hm ht (hok rfl) ab.top ab.st ab.fr fun β' a' w' hle hSt hF hT hd =>
          hQ β' a' w' ⟨by rw [text_flen _ _ _ _ _ _ ht]; exact ab.flen, keepTrans ab.keep hle, hSt, hF, hT, Nat.le_trans ab.len (text_len _ _ _ _ _ _ ht), by rw [hd]; exact ab.ds⟩
      | false =>
        exact wp_region_list (text_wp _ _ _ _ _ _ _ _ _ ht ab.st ab.fr ab.top fun β' a' w' hle hSt hF hT hd =>
          hQ β' a' w' ⟨by rw [text_flen _ _ _ _ _ _ ht]; exact ab.flen, keepTrans ab.keep hle, hSt, hF, hT, Nat.le_trans ab.len (text_len _ _ _ _ _ _ ht), by rw [hd]; exact ab.ds⟩)
    · cases draw with
      | true =>
        obtain ⟨hok, hlast⟩ := hok rfl
        exact region_drawP hm hL hg ht hok hlast ab.top ab.st ab.fr fun β' a' w' next hle hSt hF hT hd =>
          hp W A β' M' w' a' next Q hSt (fun x _ => hF.ev x) (hQ β' a' w' ⟨by rw [text_flen _ _ _ _ _ _ ht]; exact ab.flen, keepTrans ab.keep hle, hSt, hF, hT, Nat.le_trans ab.len (text_len _ _ _ _ _ _ ht), by rw [hd]; exact ab.ds⟩)
      | false =>
        refine wp_region_list ?_
        rw [hL]
        refine text_wpR _ _ _ _ _ _ _ _ _ ht ab.st ab.fr ab.top fun β' a' w' hle hSt hF hT hd => ?_
        unfold wpList
        rw [if_pos (by unfold Region.wanted; rw [hg])]
        exact .inl (hp W A β' M' w' a' _ Q hSt (fun x _ => hF.ev x) (hQ β' a' w' ⟨by rw [text_flen _ _ _ _ _ _ ht]; exact ab.flen, keepTrans ab.keep hle, hSt, hF, hT, Nat.le_trans ab.len (text_len _ _ _ _ _ _ ht), by rw [hd]; exact ab.ds⟩))
  | seq x y ihx ihy =>
    intro fr M e fr' M' β a w Q h ab hQ
    rcases h with ⟨h, hne⟩ | ⟨fr1, M1, fr2, M2, h1, h2, h3⟩
    · refine wp_seq (ihx fr M e fr' M' β a w _ h ab fun β' a' w' ab' => ?_)
      cases e with
      | normal => exact absurd rfl hne
      | exit n => exact hQ β' a' w' ab'
      | ret => exact hQ β' a' w' ab'
      | pan v => exact hQ β' a' w' ab'
    · refine wp_seq (ihx fr M .normal fr1 M1 β a w _ h1 ab fun β' a' w' ab' => ?_)
      obtain ⟨β2, ab2⟩ : ∃ β2, Abs W A T k0 β0 ds fr2 M2 β2 a' w' := by
        rcases h2 with ⟨rfl, rfl⟩ | h2
        · exact ⟨β', ab'⟩
        · exact ab'.forget h2
      exact ihy fr2 M2 e fr' M' β2 a' w' Q h3 ab2 hQ
  | cond c x y ihx ihy =>
    intro fr M e fr' M' β a w Q h ab hQ
    rcases h with ⟨hb, h⟩ | ⟨hb, h⟩
    · have hc := ab.fr.ev c
      rw [hb] at hc
      exact wp_cond_true (show a.eval c = .bool true from hc) (ihx fr M e fr' M' β a w Q h ab hQ)
    · have hc := ab.fr.ev c
      rw [hb] at hc
      exact wp_cond_false (show a.eval c = .bool false from hc) (ihy fr M e fr' M' β a w Q h ab hQ)
  | block id b ih =>
    intro fr M e fr' M' β a w Q h ab hQ
    obtain ⟨e0, h, rfl⟩ := h
    refine wp_block (ih fr M e0 fr' M' β a w _ h ab fun β' a' w' ab' => ?_)
    have := hQ β' a' w' ab'
    cases e0 with
    | normal => exact this
    | exit n =>
      simp only [AX.to, Exit.inBlock]
      simp only [exId] at this
      split
      · rename_i he; rw [if_pos he] at this; exact this
      · rename_i he; rw [if_neg he] at this; exact this
    | ret => exact this
    | pan v => exact this
  | exit id => intro fr M e fr' M' β a w Q h ab hQ; obtain ⟨rfl, rfl, rfl⟩ := h; exact wp_exit (hQ β a w ab)
  | ret => intro fr M e fr' M' β a w Q h ab hQ; obtain ⟨rfl, rfl, rfl⟩ := h; exact wp_ret (hQ β a w ab)
  | loop b ih =>
    intro fr M e fr' M' β a w Q h ab hQ
    obtain ⟨fr0, M0, hf, h⟩ := h
    obtain ⟨β1, ab1⟩ := ab.forget hf
    clear ab hf
    refine wp_of_inL ?_
    induction h generalizing β1 a w with
    | @out fr M e fr' M' h hne =>
      refine inL_step (ih fr M e fr' M' β1 a w _ h ab1 fun β' a' w' ab' => ?_)
      cases e with
      | normal => exact absurd rfl hne
      | exit n => exact hQ β' a' w' ab'
      | ret => exact hQ β' a' w' ab'
      | pan v => exact hQ β' a' w' ab'
    | @again fr M fr1 M1 fr2 M2 e fr' M' h hf _ ih2 =>
      refine inL_step (ih fr M .normal fr1 M1 β1 a w _ h ab1 fun β' a' w' ab' => ?_)
      obtain ⟨β2, ab2⟩ := ab'.forget hf
      apply ih2 <;> assumption
  | rangeFunc => intro fr M e fr' M' β a w Q h; exact h.elim
  | scope => intro fr M e fr' M' β a w Q h; exact h.elim
  | label => intro fr M e fr' M' β a w Q h; exact h.elim
  | goto => intro fr M e fr' M' β a w Q h; exact h.elim
  | refuse => intro fr M e fr' M' β a w Q h; exact h.elim
end Go.Sx
