/- An abstract run of the program's code, part 3. Conditions: none. -/
import Derived.Test.YtifdfeahgpghaaaSxTwo
import Derived.RangeFuncIn
import Derived.TacticsIn
import Derived.RangeFuncLeaves
import Derived.RangeFuncOwn
import Derived.LoopNIn
import Derived.Below
import Derived.ChangeArms
import Derived.OpenShut
import Derived.WideShapes
import Derived.SizedLaws
namespace Go.Sx
open Go
def wideR (r : Option Nat) : Fence := { Fence.wide with round := r }
theorem callsR {n : Nat} {r : Option Nat} {P : Program} {f : FuncId} {args : Array Value} {w : World} {R : Ending → World → Prop} (h : Calls P f args w R) : CallsIn (wideR r) n P f args w R := by
  have h' : CallsIn Fence.wide n P f args w R := callsIn_wide.2 h
  exact h'
theorem rowsR {n : Nat} {r : Option Nat} {P : Program} {row : String} {args : Array Value} {w : World} {R : Value → World → Prop} (h : Rows P row args w R) : RowsIn (wideR r) n P row args w R := by
  have h' : RowsIn Fence.wide n P row args w R := fun c cs _ => let ⟨v, w', q, s⟩ := h c cs; ⟨v, w', q, stepsIn_wide.2 s⟩
  exact h'
theorem wp_inR {P : Program} {o : Oper} {a : Act} {w : World} {next : Act → World → Prop} {Q : Exit → Act → World → Prop} (r : Option Nat) (n : Nat) (hd : ∀ c, o.op ≠ .defer c) (h : o.wp P a w next Q) : o.wpIn (wideR r) n P a w next Q := by
  refine ⟨fun f _ => trivial, ?_⟩
  rw [Oper.semAt_eq _ _ _ hd]
  unfold Oper.wp at h
  generalize (execOp a.eval o).run P w = res at h
  unfold Oper.upon at h
  unfold Oper.uponIn
  split at h
  · exact h
  · exact h
  · exact h
  · exact ⟨fun h => (by cases h), callsR h⟩
  · exact ⟨fun h => (by cases h), rowsR h⟩
  · exact h
  · exact h.elim
def noDef (o : Oper) : Bool := match o.op with | .defer _ => false | _ => true
theorem noDef_ne {o : Oper} (h : noDef o = true) : ∀ c, o.op ≠ .defer c := fun c e => by rw [noDef, e] at h; cases h
theorem textIn {P : Program} {ops : Array Oper} {Q : Exit → Act → World → Prop} {W : World} {A : Nat → Prop} {r : Option Nat} {n : Nat} {rest : List Oper} : ∀ (l : List Oper) (fr : List SV) (M : Mem) (rs : List Rec) (fr' : List SV) (M' : Mem) (β : Bet) (a : Act) (w : World),
    l.all noDef = true → Text P ops false l fr M rs fr' M' → St W A β M w → Fr β a.tmps fr → Top β M.length →
    (∀ β' a' w', β.le β' → St W A β' M' w' → Fr β' a'.tmps fr' → Top β' M'.length → a'.defers = a.defers → wpListIn (wideR r) n P ops Q rest a' w') → wpListIn (wideR r) n P ops Q (l ++ rest) a w
  | [], fr, M, rs, fr', M', β, a, w, _, ht, hSt, hF, hT, hQ => by
    cases rs with
    | cons => exact ht.elim
    | nil =>
      obtain ⟨rfl, rfl⟩ := ht
      exact hQ β a w (Bet.le_refl β) hSt hF hT rfl
  | o :: l, fr, M, rs, fr', M', β, a, w, hnd, ht, hSt, hF, hT, hQ => by
    have hnd1 : noDef o = true ∧ l.all noDef = true := by simpa using hnd
    cases rs with
    | nil => exact ht.elim
    | cons r' rs =>
      obtain ⟨hw, hr, ht⟩ := ht
      have hwanted := wanted_of (β := β) (tmps := a.tmps) hw (fun d _ => hF.den d)
      show wpListIn (wideR r) n P ops Q (o :: (l ++ rest)) a w
      unfold wpListIn
      rw [hwanted]
      have hput : ∀ (x : Act) (d : Option Tmp) (v : Value), (x.put d v).defers = x.defers := fun x d v => by cases d <;> rfl
      cases hg : r'.go with
      | true =>
        rw [hg] at hr
        simp only [if_true, Bool.false_eq_true, if_false] at hr
        obtain ⟨hsem, hok⟩ := hr
        simp only [if_true]
        refine wp_inR r n (noDef_ne hnd1.1) (hsem W A β M w a _ Q hSt (fun x _ => hF.ev x) (fun n k h => h) (fun n hn hr => ?_) fun v' w' β' hle hdom hSt' hd => ?_)
        · obtain ⟨h1, h2⟩ := okUps_fresh hT hok n hn hr
          exact ⟨h1, hr⟩
        · obtain ⟨hl1, hl2⟩ := Mem.app_length r'.ups M
          refine textIn l _ _ rs fr' M' β' _ w' hnd1.2 ht hSt' ((hF.mono hle).put o.dst hd) (fun k hk => ?_) fun β'' a'' w'' hle' h1 h2 h3 h4 => hQ β'' a'' w'' (Bet.le_trans hle hle') h1 h2 h3 (by rw [h4, hput])
          cases hb : β' k with
          | none => rfl
          | some m =>
            exfalso
            have hn : β k = none := hT k (by omega)
            have := hl2 k (hdom k hn (by rw [hb]; simp))
            omega
      | false =>
        rw [hg] at hr
        simp only [Bool.false_eq_true, if_false] at hr
        obtain ⟨hv, hu⟩ := hr
        rw [hv, hu] at ht
        simp only [Bool.false_eq_true, if_false]
        exact ⟨fun f _ => trivial, textIn l _ _ rs fr' M' β _ w hnd1.2 ht hSt (hF.put o.dst (x := .t []) ⟨[], rfl, trivial⟩) hT fun β'' a'' w'' hle' h1 h2 h3 h4 => hQ β'' a'' w'' hle' h1 h2 h3 (by rw [h4, hput])⟩
/-- the loop's record, and the block for the rounds' deferred calls -/
def Rob (o : Obj) : Prop := (∃ r, o = .loop r) ∨ ∃ d, o = .deferred d
theorem holds.not_rob {w : World} {β : Bet} {m : Nm} {k : Blk} {o : Obj} (h : holds w β m k) (hr : m.room ≠ 0) (ho : w.heap[m.b]? = some o) (hb : Rob o) : False := by
  have hc : ∀ c T fz, w.heap[m.b]? = some (.cells c T fz) → False := fun c T fz e => by
    rw [ho] at e
    rcases hb with ⟨r, rfl⟩ | ⟨d, rfl⟩ <;> cases e
  cases hk : k.k.isMap with
  | false =>
    rcases h.there hk with h0 | ⟨c, T, fz, h1, _⟩
    · exact hr h0
    · exact hc _ _ _ h1
  | true =>
    cases hkk : k.k with
    | map s es =>
      have hm := h.mth s es hkk
      cases s with
      | glob => obtain ⟨c, T, fz, h1, _⟩ := hm; exact hc _ _ _ h1
      | one => obtain ⟨E, clk, h1, _⟩ := hm; rw [ho] at h1; rcases hb with ⟨r, rfl⟩ | ⟨d, rfl⟩ <;> cases h1
      | many => obtain ⟨E, clk, h1, _⟩ := hm; rw [ho] at h1; rcases hb with ⟨r, rfl⟩ | ⟨d, rfl⟩ <;> cases h1
    | _ => rw [hkk] at hk; cases hk
theorem St.putO {W : World} {A : Nat → Prop} {β : Bet} {M : Mem} {w : World} {l : Nat} {o o' : Obj} (h : St W A β M w) (hl : w.heap[l]? = some o) (ho : Rob o) (hW : W.heap.size ≤ l) : St W A β M (w.putObj l o') := by
  have hother : ∀ k, k ≠ l → (w.putObj l o').heap[k]? = w.heap[k]? := fun k hk => World.putObj_heap_other hk
  refine ⟨h.os, h.tape, h.output, ?_, fun k hk hA => ?_, fun n k hn => ?_, h.sep, h.perm⟩
  · have : (w.putObj l o').heap.size = w.heap.size := by simp [World.putObj]
    rw [this]; exact h.size
  · rw [hother k (by omega)]; exact h.frame k hk hA
  · obtain ⟨m, h1, h2⟩ := h.names n k hn
    refine ⟨m, h1, h2.heap ?_⟩
    by_cases h0 : m.room = 0
    · exact .inl h0
    · exact .inr (hother _ fun e => h2.not_rob h0 (e ▸ hl) ho)
theorem St.rebase {W : World} {A : Nat → Prop} {β : Bet} {M : Mem} {w : World} (h : St W A β M w) : St w (wrA β M) β M w :=
  ⟨rfl, rfl, rfl, Nat.le_refl _, fun _ _ _ => rfl, h.names, h.sep, fun n k m hn hw hb h0 => .inl ⟨n, k, m, hn, hw, hb, h0, rfl⟩⟩
theorem St.join {W : World} {A : Nat → Prop} {β β' : Bet} {M M' : Mem} {w w' : World} (h : St W A β M w) (h' : St w (wrA β M) β' M' w') : St W A β' M' w' := by
  refine ⟨h'.os.trans h.os, h'.tape.trans h.tape, h'.output.trans h.output, Nat.le_trans h.size h'.size, fun k hk hA => ?_, h'.names, h'.sep, fun n k m hn hw hb h0 => ?_⟩
  · rw [h'.frame k (Nat.lt_of_lt_of_le hk h.size) (fun ⟨n, kk, m, h1, h2, h3, h4, h5⟩ => ?_)]
    · exact h.frame k hk hA
    · rcases h.perm n kk m h1 h2 h3 h4 with hA' | hge
      · exact hA (h5 ▸ hA')
      · omega
  · rcases h'.perm n k m hn hw hb h0 with ⟨n0, k0, m0, h1, h2, h3, h4, h5⟩ | hge
    · rw [← h5]; exact h.perm n0 k0 m0 h1 h2 h3 h4
    · exact .inr (Nat.le_trans h.size hge)
/-- a record, or the block for deferred calls, lies as it lay -/
theorem St.rob {W : World} {A : Nat → Prop} {β β' : Bet} {M M' : Mem} {w w' : World} {l : Nat} {o : Obj} (h : St W A β M w) (h' : St w (wrA β M) β' M' w') (hl : w.heap[l]? = some o) (ho : Rob o) : w'.heap[l]? = some o := by
  rw [h'.frame l (Array.getElem?_eq_some_iff.1 hl).1 (fun ⟨n, k, m, h1, h2, h3, h4, h5⟩ => ?_)]
  · exact hl
  · obtain ⟨m', h6, h7⟩ := h.names n k h1
    rw [h3] at h6
    cases h6
    exact h7.not_rob h4 (h5 ▸ hl) ho
theorem St.putSelf {W : World} {A : Nat → Prop} {β : Bet} {M : Mem} {w : World} {l : Nat} {o o' : Obj} (h : St W A β M w) (hl : w.heap[l]? = some o) (ho : Rob o) : St (w.putObj l o') (wrA β M) β M (w.putObj l o') := by
  refine ⟨rfl, rfl, rfl, Nat.le_refl _, fun _ _ _ => rfl, fun n k hn => ?_, h.sep, fun n k m hn hw hb h0 => .inl ⟨n, k, m, hn, hw, hb, h0, rfl⟩⟩
  obtain ⟨m, h1, h2⟩ := h.names n k hn
  refine ⟨m, h1, h2.heap ?_⟩
  by_cases h0 : m.room = 0
  · exact .inl h0
  · exact .inr (World.putObj_heap_other fun e => h2.not_rob h0 (e ▸ hl) ho)
/-- the record turned, and turned back -/
theorem St.turned {W : World} {A : Nat → Prop} {β1 β2 : Bet} {M1 M2 : Mem} {w1 w3 : World} {L : Nat} {o o1 : Obj} (h1 : St W A β1 M1 w1) (hL1 : w1.heap[L]? = some o) (ho : Rob o) (ho1 : Rob o1) (hW : W.heap[L]? = some o)
    (h3 : St (w1.putObj L o1) (wrA β1 M1) β2 M2 w3) : w3.heap[L]? = some o1 ∧ St W A β2 M2 (w3.putObj L o) := by
  have hlt1 : L < w1.heap.size := (Array.getElem?_eq_some_iff.1 hL1).1
  have hs2 : (w1.putObj L o1).heap.size = w1.heap.size := by simp [World.putObj]
  have hL2 : (w1.putObj L o1).heap[L]? = some o1 := World.putObj_heap_same hlt1
  have hSt2 : St (w1.putObj L o1) (wrA β1 M1) β1 M1 (w1.putObj L o1) := h1.putSelf hL1 ho
  have hL3 : w3.heap[L]? = some o1 := hSt2.rob h3 hL2 ho1
  have hlt3 : L < w3.heap.size := (Array.getElem?_eq_some_iff.1 hL3).1
  refine ⟨hL3, h3.os.trans h1.os, h3.tape.trans h1.tape, h3.output.trans h1.output, ?_, fun k hk hA => ?_, fun n k hn => ?_, h3.sep, fun n k m hn hw hb h0 => ?_⟩
  · have e4 : (w3.putObj L o).heap.size = w3.heap.size := by simp [World.putObj]
    have := h3.size
    have := h1.size
    omega
  · by_cases e : k = L
    · subst e
      rw [World.putObj_heap_same hlt3, hW]
    · rw [World.putObj_heap_other e, h3.frame k (by have := h1.size; omega) ?_, World.putObj_heap_other e, h1.frame k hk hA]
      rintro ⟨n, kk, m, g1, g2, g3, g4, g5⟩
      rcases h1.perm n kk m g1 g2 g3 g4 with hA' | hge
      · exact hA (g5 ▸ hA')
      · omega
  · obtain ⟨m, g1, g2⟩ := h3.names n k hn
    refine ⟨m, g1, g2.heap ?_⟩
    by_cases h0 : m.room = 0
    · exact .inl h0
    · exact .inr (World.putObj_heap_other fun e => g2.not_rob h0 (e ▸ hL3) ho1)
  · rcases h3.perm n k m hn hw hb h0 with ⟨n0, k0, m0, g1, g2, g3, g4, g5⟩ | hge
    · rw [← g5]; exact h1.perm n0 k0 m0 g1 g2 g3 g4
    · exact .inr (by have := h1.size; omega)
/-- ONE ROUND: the assignment to the loop's variable, and a body of one region -/
theorem round_step {P : Program} {n L D : Nat} {rec : Loop} {fn : FuncId} {tmps : Array Value} {id3 id4 bid : Nat} {ops3 ops4 : Array Oper} {fr : List SV} {M M2 : Mem} {β : Bet} {w : World} {R : Ending → World → Prop}
    (hnd3 : ops3.toList.all noDef = true) (hnd4 : ops4.toList.all noDef = true)
    {rs3 rs4 : List Rec} {fr1 fr2 : List SV} {M1 : Mem} (t3 : Text P ops3 false ops3.toList fr M rs3 fr1 M1) (t4 : Text P ops4 false ops4.toList fr1 M1 rs4 fr2 M2)
    (hSt : St w (wrA β M) β M w) (hF : Fr β tmps fr) (hT : Top β M.length) (hL : w.heap[L]? = some (.loop rec)) (hrec : rec.state = .ready) (hpen : rec.pending = none) (hD : w.heap[D]? = some (.deferred (some []))) (hLD : D ≠ L)
    (hR : ∀ β' w', β.le β' → St w (wrA β M) β' M2 w' → Top β' M2.length → w'.heap[L]? = some (.loop rec) → w'.heap[D]? = some (.deferred (some [])) → R (.returned (.bool true)) w') :
    RoundIn Fence.wide n P L fn tmps (.region id3 ops3 false) (.block bid (.region id4 ops4 false)) w R := by
  refine roundIn_of_wpIn trivial ?_
  show (Code.region id3 ops3 false).wpIn (wideR (some L)) n P _ _ _
  refine wpIn_region_list ?_
  rw [← List.append_nil ops3.toList]
  refine textIn ops3.toList fr M rs3 fr1 M1 β _ w hnd3 t3 hSt hF hT fun β1 a1 w1 hle1 hSt1 hF1 hT1 _ => ?_
  have hL1 := hSt.rob hSt1 hL (.inl ⟨_, rfl⟩)
  have hD1 := hSt.rob hSt1 hD (.inr ⟨_, rfl⟩)
  refine ⟨_, run_beginRound hL1 hrec, ?_⟩
  have hD2 : (w1.putObj L (.loop { rec with state := .busy })).heap[D]? = some (.deferred (some [])) := (World.putObj_heap_other hLD).trans hD1
  refine wpIn_block ?_
  show (Code.region id4 ops4 false).wpIn (wideR (some L)) n P _ _ _
  refine wpIn_region_list ?_
  rw [← List.append_nil ops4.toList]
  have hSt2 : St (w1.putObj L (.loop { rec with state := .busy })) (wrA β1 M1) β1 M1 (w1.putObj L (.loop { rec with state := .busy })) := hSt1.putSelf hL1 (.inl ⟨_, rfl⟩)
  refine textIn ops4.toList fr1 M1 rs4 fr2 M2 β1 _ _ hnd4 t4 hSt2 hF1 hT1 fun β2 a2 w3 hle2 hSt3 hF2 hT2 _ => ?_
  obtain ⟨hL3, hSt4⟩ := hSt1.turned hL1 (.inl ⟨_, rfl⟩) (.inl ⟨_, rfl⟩) hL hSt3
  have hD3 := hSt2.rob hSt3 hD2 (.inr ⟨_, rfl⟩)
  have hend := run_endRound (P := P) none hL3
  have er : ({ ({ rec with state := .busy } : Loop) with state := if (none : Option Code).isNone then .ready else .done, pending := none } : Loop) = rec := by
    cases rec
    simp only at hrec hpen
    subst hrec hpen
    rfl
  rw [er] at hend
  refine ⟨_, _, hend, hR β2 _ (Bet.le_trans hle1 hle2) hSt4 hT2 (World.putObj_heap_same (Array.getElem?_eq_some_iff.1 hL3).1) ((World.putObj_heap_other hLD).trans hD3)⟩
end Go.Sx
namespace Go.Sx
open Go
theorem run_callYield {P : Program} {ev : Operand → Value} {o : Oper} {c : Call} {w : World} {L : Nat} {rec : Loop} {x y : Operand} (h : o.op = .call c) (hc : c.callee = .value x) (hx : ev x = .func (.yield L) #[] #[]) (ha : c.args = #[y])
    (hL : w.heap[L]? = some (.loop rec)) (hp : rec.params.size = 1) :
    (execOp ev o).run P w = .ok (.round L rec.fn ((rec.params.zip #[ev y]).foldl (fun t (p, v) => t.setIfInBounds p v) rec.tmps) rec.assign rec.body) w := by
  have hy := run_yield (P := P) (args := #[ev y]) hL (by simp [hp])
  simp [execOp, h, resolve, hc, hx, ha, invoke, go_sem, hy]
/-- the value that a range over a function hands to the function -/
def yv (L : Nat) : Value := .func (.yield L) #[] #[]
/-- a region of an iterator in which yield is called once -/
theorem region_yield {P : Program} {id : Nat} {ops ops3 ops4 : Array Oper} {l1 l2 : List Oper} {y : Oper} {c : Call} {t s p0 id3 id4 bid L D : Nat} {rec : Loop} {fr recfr : List SV} {M : Mem} {K : List SV → Mem → Prop}
    {W : World} {A : Nat → Prop} {β : Bet} {a : Act} {w : World} {Q : Exit → Act → World → Prop} {n : Nat}
    (hops : ops.toList = l1 ++ y :: l2) (hnd : ops.toList.all noDef = true) (hy : y.op = .call c) (hc : c.callee = .value (.tmp t)) (ha : c.args = #[.tmp s])
    (hnd3 : ops3.toList.all noDef = true) (hnd4 : ops4.toList.all noDef = true)
    (hrec : rec.state = .ready) (hpen : rec.pending = none) (hps : rec.params = #[p0]) (has : rec.assign = .region id3 ops3 false) (hbo : rec.body = .block bid (.region id4 ops4 false))
    (hWL : W.heap[L]? = some (.loop rec)) (hWD : W.heap[D]? = some (.deferred (some []))) (hAL : ¬ A L) (hAD : ¬ A D) (hLD : D ≠ L)
    (hrun : runF P ops false l1 fr M [] fun fr1 M1 _ =>
      frGet fr1 t = .o (.c (.v (yv L))) ∧ wantA ops y fr1 = some true ∧
      putF recfr (some p0) (frGet fr1 s) fun frA => runF P ops3 false ops3.toList frA M1 [] fun fr3 M3 _ => runF P ops4 false ops4.toList fr3 M3 [] fun _ M4 _ =>
        putF fr1 y.dst (.o (.c (.v (.bool true)))) fun frB => runF P ops false l2 frB M4 [] fun fr2 M2 _ => K fr2 M2)
    (hSt : St W A β M w) (hF : Fr β a.tmps fr) (hT : Top β M.length) (hrF : Fr β rec.tmps recfr)
    (hQ : ∀ β' a' w' fr2 M2, K fr2 M2 → β.le β' → St W A β' M2 w' → Fr β' a'.tmps fr2 → Top β' M2.length → a'.defers = a.defers → Q .normal a' w') :
    (Code.region id ops false).wpIn Fence.wide n P Q a w := by
  obtain ⟨rs1, fr1, M1, t1, hfn, hwant, hk⟩ := runF_text _ _ _ _ _ hrun
  rw [putF_eq] at hk
  obtain ⟨rs3, fr3, M3, t3, hk3⟩ := runF_text _ _ _ _ _ hk
  obtain ⟨rs4, fr4, M4, t4, hk4⟩ := runF_text _ _ _ _ _ hk3
  rw [putF_eq] at hk4
  obtain ⟨rs2, fr2, M2, t2, hK⟩ := runF_text _ _ _ _ _ hk4
  have hnd' : l1.all noDef = true ∧ noDef y = true ∧ l2.all noDef = true := by rw [hops] at hnd; simpa using hnd
  refine wpIn_region_list ?_
  rw [hops]
  show wpListIn (wideR none) n P ops Q (l1 ++ y :: l2) a w
  refine textIn (rest := y :: l2) l1 fr M rs1 fr1 M1 β a w hnd'.1 t1 hSt hF hT fun β1 a1 w1 hle1 hSt1 hF1 hT1 hd1 => ?_
  have hL1 : w1.heap[L]? = some (.loop rec) := by rw [hSt1.frame L (Array.getElem?_eq_some_iff.1 hWL).1 hAL]; exact hWL
  have hD1 : w1.heap[D]? = some (.deferred (some [])) := by rw [hSt1.frame D (Array.getElem?_eq_some_iff.1 hWD).1 hAD]; exact hWD
  unfold wpListIn
  rw [wanted_of (β := β1) (tmps := a1.tmps) hwant (fun d _ => hF1.den d)]
  simp only [if_true]
  have hev : a1.eval (.tmp t) = yv L := by
    have := hF1.den t
    rw [hfn] at this
    exact this
  refine ⟨fun f _ => trivial, ?_⟩
  show y.uponIn (wideR none) n P a1 _ Q ((y.semAt none a1.eval).run P w1)
  rw [Oper.semAt_none, run_callYield hy hc hev ha hL1 (by rw [hps]; rfl), hps, has, hbo]
  refine ⟨fun h => (by cases h), ?_⟩
  have hFr : Fr β1 (({ tmps := rec.tmps, defers := [] } : Act).put (some p0) (a1.eval (.tmp s))).tmps (frPut recfr (some p0) (frGet fr1 s)) := (hrF.mono hle1).put (a := { tmps := rec.tmps, defers := [] }) (some p0) (hF1.den s)
  refine round_step (D := D) (fr := frPut recfr (some p0) (frGet fr1 s)) (M := M1) (M2 := M4) (β := β1) (rec := rec) hnd3 hnd4 t3 t4 hSt1.rebase ?_ hT1 hL1 hrec hpen hD1 hLD ?_
  · have e : (#[p0].zip #[a1.eval (.tmp s)]).foldl (fun t (p, v) => t.setIfInBounds p v) rec.tmps = rec.tmps.setIfInBounds p0 (a1.eval (.tmp s)) := by simp
    rw [e]
    exact hFr
  · intro β2 w2 hle2 hSt2 hT2 hL2 hD2
    show wpListIn (wideR none) n P ops Q l2 (a1.put y.dst (.bool true)) w2
    rw [← List.append_nil l2]
    have hput : ∀ (x : Act) (d : Option Tmp) (v : Value), (x.put d v).defers = x.defers := fun x d v => by cases d <;> rfl
    refine textIn (rest := []) l2 _ M4 rs2 fr2 M2 β2 _ w2 hnd'.2.2 t2 (hSt1.join hSt2) ((hF1.mono hle2).put y.dst (x := .o (.c (.v (.bool true)))) rfl) hT2 fun β3 a3 w3 hle3 hSt3 hF3 hT3 hd3 => ?_
    exact hQ β3 a3 w3 fr2 M2 hK (Bet.le_trans hle1 (Bet.le_trans hle2 hle3)) hSt3 hF3 hT3 (by rw [hd3, hput, hd1])
end Go.Sx
namespace Go.Sx
open Go
def Wk (P : Program) (W : World) (A : Nat → Prop) (T k0 : Nat) (β0 : Bet) (ds : List Deferred) (c : Code) (fr : List SV) (M : Mem) (K : Kx) : Prop :=
  ∀ (β : Bet) (a : Act) (w : World) (Q : Exit → Act → World → Prop), Abs W A T k0 β0 ds fr M β a w → (∀ e fr' M' β' a' w', K e fr' M' → Abs W A T k0 β0 ds fr' M' β' a' w' → Q e.to a' w') → c.wp P Q a w
variable {P : Program} {W : World} {A : Nat → Prop} {T k0 : Nat} {β0 : Bet} {ds : List Deferred}
theorem Wk.of {J : Bool} {c : Code} {fr : List SV} {M : Mem} {K : Kx} (hm : P.follows .mixedOrders = true) (h0 : ∀ n, n < k0 → β0 n ≠ none) (h : acode P J k0 c fr M K) : Wk P W A T k0 β0 ds c fr M K := fun β a w Q ab hQ => by
  obtain ⟨e, fr', M', hr, hk⟩ := acode_rel _ _ _ _ h
  exact ARun_sound hm h0 c fr M e fr' M' β a w Q hr ab fun β' a' w' ab' => hQ e fr' M' β' a' w' hk ab'
theorem Wk.seq {x y : Code} {fr : List SV} {M : Mem} {K : Kx} (h : Wk P W A T k0 β0 ds x fr M (seqK K fun fr M K => Wk P W A T k0 β0 ds y fr M K)) : Wk P W A T k0 β0 ds (.seq x y) fr M K := fun β a w Q ab hQ => by
  refine wp_seq (h β a w _ ab fun e fr' M' β' a' w' hk ab' => ?_)
  cases e with
  | normal => exact hk β' a' w' Q ab' hQ
  | exit n => exact hQ _ _ _ _ _ _ hk ab'
  | ret => exact hQ _ _ _ _ _ _ hk ab'
  | pan v => exact hQ _ _ _ _ _ _ hk ab'
theorem Wk.block {id : Nat} {c : Code} {fr : List SV} {M : Mem} {K : Kx} (h : Wk P W A T k0 β0 ds c fr M (blockK id K)) : Wk P W A T k0 β0 ds (.block id c) fr M K := fun β a w Q ab hQ => by
  refine wp_block (h β a w _ ab fun e fr' M' β' a' w' hk ab' => ?_)
  cases e with
  | normal => exact hQ _ _ _ _ _ _ hk ab'
  | exit i =>
    have hk' : if i = id then K .normal fr' M' else K (.exit i) fr' M' := hk
    show if i = id then Q .normal a' w' else Q (.exit i) a' w'
    split
    · rename_i h; rw [if_pos h] at hk'; exact hQ .normal _ _ _ _ _ hk' ab'
    · rename_i h; rw [if_neg h] at hk'; exact hQ (.exit i) _ _ _ _ _ hk' ab'
  | ret => exact hQ _ _ _ _ _ _ hk ab'
  | pan v => exact hQ _ _ _ _ _ _ hk ab'
theorem Wk.loop {c : Code} {fr : List SV} {M : Mem} {K : Kx} {X : Type} (inv : X → Prop) (μ : X → Nat) (H : X → List (Nat × SV)) (G : X → Mem) (at' : X → List SV → Mem → Prop) (x0 : X) (hi : inv x0) (hx : at' x0 fr M)
    (hfit : ∀ x fr' M', at' x fr' M' → ∃ rn, AFit rn k0 fr' M' (H x) (G x))
    (body : ∀ x, inv x → Wk P W A T k0 β0 ds c (mkFr 0 T (H x)) (G x) fun e fr' M' => match e with
      | .normal => ∃ x', (inv x' ∧ μ x' < μ x) ∧ at' x' fr' M'
      | e => K e fr' M') : Wk P W A T k0 β0 ds (.loop c) fr M K := fun β a w Q ab hQ => by
  have key : ∀ m x, μ x < m → inv x → ∀ fr M β a w, at' x fr M → Abs W A T k0 β0 ds fr M β a w → Code.roundsIn Fence.wide 0 P c Q m a w := by
    intro m
    induction m with
    | zero => intro x h; omega
    | succ m ih =>
      intro x hm hi fr M β a w hat ab
      obtain ⟨rn, hA⟩ := hfit x fr M hat
      obtain ⟨β1, ab1⟩ := ab.forget (fr2 := mkFr 0 T (H x)) (M2 := G x) ⟨H x, rn, hA, by rw [ab.flen]⟩
      refine wpIn_wide.2 (body x hi β1 a w _ ab1 fun e fr' M' β' a' w' hk ab' => ?_)
      cases e with
      | normal =>
        obtain ⟨x', ⟨h1, h2⟩, h3⟩ := hk
        exact ih x' (by omega) h1 fr' M' β' a' w' h3 ab'
      | exit n => exact hQ _ _ _ _ _ _ hk ab'
      | ret => exact hQ _ _ _ _ _ _ hk ab'
      | pan v => exact hQ _ _ _ _ _ _ hk ab'
  exact wpIn_wide.1 (wpIn_loop_rounds (μ x0 + 1) (key _ x0 (by omega) hi fr M β a w hx ab))
/-- a region of an iterator in which yield is called once, from an abstract state -/
theorem Wk.yield {id : Nat} {ops ops3 ops4 : Array Oper} {l1 l2 : List Oper} {y : Oper} {c : Call} {t s p0 id3 id4 bid L D : Nat} {rec : Loop} {fr recfr : List SV} {M : Mem} {K : Kx}
    (hops : ops.toList = l1 ++ y :: l2) (hnd : ops.toList.all noDef = true) (hy : y.op = .call c) (hc : c.callee = .value (.tmp t)) (ha : c.args = #[.tmp s])
    (hnd3 : ops3.toList.all noDef = true) (hnd4 : ops4.toList.all noDef = true)
    (hrec : rec.state = .ready) (hpen : rec.pending = none) (hps : rec.params = #[p0]) (has : rec.assign = .region id3 ops3 false) (hbo : rec.body = .block bid (.region id4 ops4 false))
    (hWL : W.heap[L]? = some (.loop rec)) (hWD : W.heap[D]? = some (.deferred (some []))) (hAL : ¬ A L) (hAD : ¬ A D) (hLD : D ≠ L)
    (h0 : ∀ n, n < k0 → β0 n ≠ none) (hrF : ∀ β, Keep k0 β0 β → Fr β rec.tmps recfr)
    (hrun : runF P ops false l1 fr M [] fun fr1 M1 _ =>
      frGet fr1 t = .o (.c (.v (yv L))) ∧ wantA ops y fr1 = some true ∧
      putF recfr (some p0) (frGet fr1 s) fun frA => runF P ops3 false ops3.toList frA M1 [] fun fr3 M3 _ => runF P ops4 false ops4.toList fr3 M3 [] fun _ M4 _ =>
        putF fr1 y.dst (.o (.c (.v (.bool true)))) fun frB => runF P ops false l2 frB M4 [] fun fr2 M2 _ => fr2.length = T ∧ k0 ≤ M2.length ∧ K .normal fr2 M2) :
    Wk P W A T k0 β0 ds (.region id ops false) fr M K := fun β a w Q ab hQ => by
  refine (wpIn_wide (n := 0)).1 (region_yield (K := fun fr2 M2 => fr2.length = T ∧ k0 ≤ M2.length ∧ K .normal fr2 M2) hops hnd hy hc ha hnd3 hnd4 hrec hpen hps has hbo hWL hWD hAL hAD hLD hrun ab.st ab.fr ab.top (hrF β ab.keep) fun β' a' w' fr2 M2 hk hle hSt hF hT hd => ?_)
  refine hQ .normal fr2 M2 β' a' w' hk.2.2 ⟨hk.1, fun n hn => ?_, hSt, hF, hT, hk.2.1, hd.trans ab.ds⟩
  rw [← ab.keep n hn]
  have := h0 n hn
  rw [← ab.keep n hn] at this
  cases hb : β n with
  | none => exact absurd hb this
  | some m => exact hle n m hb
end Go.Sx
namespace Go.Sx
open Go
theorem FC.shift {P : Program} {g : FuncId} {k : IntKind} {xs : List Int} {off n : Nat} {v1 : SV} (hv : bS 0 v1 = true) (hr : renS (fun n => n) v1 = v1)
    (h : FC P g [.o (.c (.s 0 0 n 1))] [some ⟨.ints k (xs.drop off), false⟩] v1 [some ⟨.ints k (xs.drop off), false⟩]) :
    FC P g [.o (.c (.s 0 off n 1))] [some ⟨.ints k xs, false⟩] v1 [some ⟨.ints k xs, false⟩] := by
  have only : ∀ (ys : List Int) (q : Nat) (b : Blk), Mem.get [some ⟨.ints k ys, false⟩] q = some b → q = 0 ∧ b = ⟨.ints k ys, false⟩ := fun ys q b hq => by
    cases q with
    | zero => exact ⟨rfl, (Option.some.inj hq).symm⟩
    | succ q => cases q <;> cases hq
  refine ⟨h.can, Nat.le_refl _, h.bv, ⟨trivial, trivial⟩, fun β w vals hT hdef hSt hd => ?_⟩
  obtain ⟨m, hm, hh⟩ := hSt.names 0 _ rfl
  have hsz : m.sz = 1 := by
    rcases hh.fits with h1 | ⟨h1, _⟩
    · cases h1
    · exact h1
  have hneed : xs.length * 1 ≤ m.room := hh.need
  obtain ⟨m', hm'⟩ : ∃ m' : Nm, m' = ⟨m.b, m.o + off, 1, m.room - off⟩ := ⟨_, rfl⟩
  obtain ⟨β1, hβ1⟩ : ∃ β1 : Bet, β1 = fun q => if q = 0 then some m' else none := ⟨_, rfl⟩
  have h10 : β1 0 = some m' := by rw [hβ1]; rfl
  have hholds : holds w β1 m' ⟨.ints k (xs.drop off), false⟩ := by
    refine ⟨.inr ⟨by rw [hm']; rfl, Nat.one_pos, fun _ _ => rfl⟩, ?_, fun _ => ?_, fun s es e => by cases e⟩
    · rw [hm']
      show (xs.drop off).length * 1 ≤ m.room - off
      rw [List.length_drop]; omega
    · rcases hh.there rfl with h1 | ⟨c, T, fz, h1, h2, h3, h4⟩
      · exact .inl (by rw [hm']; show m.room - off = 0; omega)
      · by_cases ho : off ≤ m.room
        · refine .inr ⟨c, T, fz, by rw [hm']; exact h1, by rw [hm']; show m.o + off + (m.room - off) ≤ c.size; omega, (fun e => by cases e), fun i j x hx => ?_⟩
          obtain ⟨hi, hx⟩ := Bk.at_some.1 hx
          have hi' : i < (xs.drop off).length := hi
          rw [List.length_drop] at hi'
          obtain ⟨y, hy, hdy⟩ := h4 (i + off) j x (Bk.at_some.2 ⟨by show i + off < xs.length; omega, by
            have e : (xs.drop off).getD i 0 = xs.getD (i + off) 0 := by simp [List.getD_eq_getElem?_getD, List.getElem?_drop, Nat.add_comm]
            have hx' : ([C.v (.int k ((xs.drop off).getD i 0))] : List C)[j]? = some x := hx
            rw [e] at hx'
            exact hx'⟩)
          refine ⟨y, ?_, ?_⟩
          · rw [hm']
            show c[m.o + off + i * 1 + j]? = some y
            rw [hsz] at hy
            rw [← hy]
            congr 1
            omega
          · cases j with
            | zero =>
              have hx' : C.v (.int k ((xs.drop off).getD i 0)) = x := Option.some.inj hx
              subst hx'
              exact hdy
            | succ j => cases hx
        · exact .inl (by rw [hm']; show m.room - off = 0; omega)
  have hSt1 : St w (wrA β1 [some ⟨.ints k (xs.drop off), false⟩]) β1 [some ⟨.ints k (xs.drop off), false⟩] w := by
    refine ⟨rfl, rfl, rfl, Nat.le_refl _, fun _ _ _ => rfl, fun q b hq => ?_, fun q q' b b' a a' hne hq hq' _ _ _ _ _ => ?_, fun q b a hq hw _ _ => ?_⟩
    · obtain ⟨rfl, rfl⟩ := only _ _ _ hq
      exact ⟨m', h10, hholds⟩
    · exact absurd ((only _ _ _ hq).1.trans (only _ _ _ hq').1.symm) hne
    · obtain ⟨rfl, rfl⟩ := only _ _ _ hq
      cases hw
  match vals, hd with
  | [x], ⟨hx, _⟩ =>
  have hx' : denC β x (.s 0 off n 1) := hx
  obtain ⟨Ad, cap, mm, g1, g2, g3, g4, g5, g6⟩ := hx'
  rw [hm] at g1
  obtain rfl := Option.some.inj g1
  have hx1 : denC β1 x (.s 0 0 n 1) := by
    refine ⟨Ad, cap, m', h10, g2, by rw [hm'], g4, g5, g6.imp id fun ⟨e1, e2⟩ => ⟨?_, ?_⟩⟩
    · rw [e1, hm', hsz]
      simp
    · rw [hm']
      rw [hsz] at e2
      show (0 + cap) * 1 ≤ m.room - off
      omega
  refine (h.run β1 w [x] ?_ ?_ hSt1 ⟨hx1, trivial⟩).mono ?_
  · intro q hq
    rw [hβ1]
    have : q ≠ 0 := by have : 1 ≤ q := hq; omega
    simp [this]
  · intro q hq
    have : q = 0 := by have : q < 1 := hq; omega
    subst this
    rw [h10]; simp
  · rintro e w' ⟨v', β', he, _, _, hst, hdv⟩
    have hkeep : ∀ q, q < w.heap.size → w'.heap[q]? = w.heap[q]? := fun q hq => hst.frame q hq fun ⟨a, b, c, d1, d2, _⟩ => by
      obtain ⟨rfl, rfl⟩ := only _ _ _ d1
      cases d2
    refine ⟨v', β, he, fun _ _ => rfl, hT, ⟨hst.os, hst.tape, hst.output, hst.size, fun q hq _ => hkeep q hq, fun q b hq => ?_, fun q q' b b' a a' hne hq hq' _ _ _ _ _ => ?_, fun q b a hq hw _ _ => ?_⟩, ?_⟩
    · obtain ⟨rfl, rfl⟩ := only _ _ _ hq
      refine ⟨m, hm, hh.heap ?_⟩
      by_cases h0 : m.room = 0
      · exact .inl h0
      · exact .inr (hkeep _ (hh.lt h0))
    · exact absurd ((only _ _ _ hq).1.trans (only _ _ _ hq').1.symm) hne
    · obtain ⟨rfl, rfl⟩ := only _ _ _ hq
      cases hw
    · have := denS_ren (β := β) (β' := β') (g := 0) (σ := fun n => n) (fun q hq => absurd hq (Nat.not_lt_zero _)) hv hdv
      rwa [hr] at this
/-- a frame at a function's start -/
theorem Fr.init {β : Bet} {vals : List Value} {args0 : List SV} {N T : Nat} (hT : N = T) (hd : denLS β vals args0) : Fr β (vals.toArray ++ Array.replicate (N - vals.toArray.size) undef) (args0 ++ undefs (T - args0.length)) := by
  have hvl := hd.length
  refine ⟨?_, fun t => ?_⟩
  · simp [undefs_length, hT, hvl]
  · rw [frGet_append]
    split
    · rename_i ht
      have hlt : t < vals.length := by omega
      have := denLS.get t hd ht
      have e : (vals.toArray ++ Array.replicate (N - vals.toArray.size) undef).getD t undef = vals.getD t undef := by
        simp [List.getD, Array.getElem?_append, hlt]
      rw [e]; exact this
    · rename_i ht
      rw [frGet_undefs]
      split
      · rename_i ht2
        refine ⟨[], ?_, trivial⟩
        have hnl : ¬ t < vals.length := by omega
        have hr : t - vals.length < N - vals.length := by rw [hT]; omega
        simp [Array.getElem?_append, hnl, hr, undef]
      · exact trivial
theorem St.notA {W : World} {A : Nat → Prop} {β : Bet} {M : Mem} {w : World} {l : Nat} {o : Obj} (h : St W A β M w) (hl : w.heap[l]? = some o) (ho : Rob o) : ¬ wrA β M l := fun ⟨n, k, m, h1, _, h3, h4, h5⟩ => by
  obtain ⟨m', h6, h7⟩ := h.names n k h1
  rw [h3] at h6
  cases h6
  exact h7.not_rob h4 (h5 ▸ hl) ho
/-- a frame of which only some slots are told -/
theorem Fr.u {β : Bet} {tmps : Array Value} {fr fr' : List SV} (h : Fr β tmps fr) (hl : fr'.length = fr.length) (hs : ∀ t, frGet fr' t = frGet fr t ∨ frGet fr' t = .o (.c .u)) : Fr β tmps fr' :=
  ⟨h.len.trans hl.symm, fun t => by
    rcases hs t with e | e
    · rw [e]; exact h.den t
    · rw [e]; exact trivial⟩
/-- THE STATEMENT: an outermost range over a function -/
theorem range_step {P : Program} {g : Operand} {gf : FuncId} {lb : Array Value} {ps : Array Tmp} {assign body : Code} {Q : Exit → Act → World → Prop} {a : Act} {w : World}
    (hg : a.eval g = .func (.func gf) #[] lb) (hcan : callable P gf = true)
    (h : ∀ fn rec W1, rec = ({ state := .ready, pending := none, fn, tmps := a.tmps, params := ps, assign, body, defers := w.heap.size } : Loop) → W1 = (w.alloc (.deferred (some []))).alloc (.loop rec) →
      Calls P gf (#[yv (w.heap.size + 1)] ++ lb) W1 fun e w3 => ∃ v, e = .returned v ∧ ∃ rec', w3.heap[w.heap.size + 1]? = some (.loop rec') ∧ rec'.state ≠ .busy ∧ rec'.pending = none ∧
        Q .normal { a with defers := { target := .collected w.heap.size, args := #[] } :: a.defers } (w3.putObj (w.heap.size + 1) (.loop { rec' with state := .exhausted }))) :
    (Code.rangeFunc g ps assign body).wp P Q a w := by
  refine (wpIn_wide (n := 1)).1 (wpIn_rangeFunc fun fn _ => ?_)
  obtain ⟨rec, hrec⟩ : ∃ rec : Loop, rec = { state := .ready, pending := none, fn, tmps := a.tmps, params := ps, assign, body, defers := w.heap.size } := ⟨_, rfl⟩
  obtain ⟨W1, hW1⟩ : ∃ W1, W1 = (w.alloc (.deferred (some []))).alloc (.loop rec) := ⟨_, rfl⟩
  have hc := h fn rec W1 hrec hW1
  refine ⟨w.heap.size + 1, [{ target := .collected w.heap.size, args := #[] }], W1, { target := .fn (.func gf) lb, args := #[.func (.yield (w.heap.size + 1)) #[] #[]] }, W1, gf,
    #[.func (.yield (w.heap.size + 1)) #[] #[]] ++ lb, W1, ?_, ?_, ?_, ?_, fun _ => Nat.le_refl _, ?_⟩
  · rw [hW1, hrec]; exact run_enterLoop_outer _ _ _ _ _
  · simp only [resolve, hg]
    simp [go_sem]
  · intro f' _; trivial
  · have := run_callFunc hcan (#[.func (.yield (w.heap.size + 1)) #[] #[]] ++ lb) W1
    simp [invoke, go_sem, this]
  · refine callsIn_wide.2 (hc.mono ?_)
    rintro e w3 ⟨v, rfl, rec', hL, hb, hp, hQ⟩
    refine ⟨none, _, ?_, hQ⟩
    rw [run_endLoop (P := P) hL hb]
    exact congrArg (fun p => Result.ok p _) hp
end Go.Sx
namespace Go.Sx
open Go
def nzC : C → Bool
  | .p n _ _ => !Nat.beq n 0
  | .s n _ _ _ => !Nat.beq n 0
  | .f _ _ _ => false
  | .m n => !Nat.beq n 0
  | _ => true
def nz1 : V1 → Bool
  | .c c => nzC c
  | .a l => l.all nzC
def nzS : SV → Bool
  | .o y => nz1 y
  | .t l => l.all nz1
def nzB (k : Bk) : Prop := ∀ i j x, k.at i j = some x → nzC x = true
theorem nzB.ints {k : IntKind} {xs : List Int} : nzB (.ints k xs) := fun i j x h => by
  obtain ⟨_, h⟩ := Bk.at_some.1 h
  cases j with
  | zero => obtain rfl := Option.some.inj h; rfl
  | succ j => cases h
theorem nzB.rows {sz n : Nat} {row : Nat → List C} (hr : ∀ i, i < n → (row i).all nzC = true) : nzB (.rows sz n row) := fun i j x h => by
  obtain ⟨hi, h⟩ := Bk.at_some.1 h
  exact List.all_eq_true.1 (hr i hi) x (List.mem_of_getElem? h)
def nzM : Mem → Prop
  | [] => True
  | none :: r => nzM r
  | some b :: r => nzB b.k ∧ nzM r
theorem nzM.get : ∀ {R : Mem} {q : Nat} {b : Blk}, nzM R → Mem.get R q = some b → nzB b.k
  | some b0 :: r, 0, b, h, e => by obtain rfl := Option.some.inj e; exact h.1
  | none :: r, 0, b, _, e => by cases e
  | some _ :: r, q + 1, b, h, e => nzM.get (R := r) h.2 e
  | none :: r, q + 1, b, h, e => nzM.get (R := r) h e
  | [], _, _, _, e => by cases e
def skC (off : Nat) : C → C
  | .s 0 o len sz => .s 0 (off + o) len sz
  | c => c
def skOk : C → Bool
  | .p n _ _ => !Nat.beq n 0
  | .f _ _ _ => false
  | .m n => !Nat.beq n 0
  | _ => true
def sk1 (off : Nat) : V1 → V1
  | .c c => .c (skC off c)
  | .a l => .a (l.map (skC off))
def skS (off : Nat) : SV → SV
  | .o y => .o (sk1 off y)
  | .t l => .t (l.map (sk1 off))
def skOk1 : V1 → Bool
  | .c c => skOk c
  | .a l => l.all skOk
def skOkS : SV → Bool
  | .o y => skOk1 y
  | .t l => l.all skOk1
section
variable {β β1 : Bet} (hb : ∀ n, n ≠ 0 → β1 n = β n)
include hb
theorem denC_nz {x : Value} : ∀ {c : C}, nzC c = true → denC β x c → denC β1 x c
  | .v _, _, h => h
  | .p n _ _, hz, ⟨m, h, e⟩ => ⟨m, by rw [hb n (fun e => by subst e; cases hz)]; exact h, e⟩
  | .s n _ _ _, hz, ⟨A, cap, m, h, r⟩ => ⟨A, cap, m, by rw [hb n (fun e => by subst e; cases hz)]; exact h, r⟩
  | .z, _, h => h
  | .u, _, _ => trivial
  | .m n, hz, ⟨m, h, e⟩ => ⟨m, by rw [hb n (fun e => by subst e; cases hz)]; exact h, e⟩
theorem denL_nz : ∀ {xs : List Value} {l : List C}, l.all nzC = true → denL β xs l → denL β1 xs l
  | [], [], _, _ => trivial
  | _ :: _, _ :: _, hz, ⟨h, r⟩ => by
    simp only [List.all_cons, Bool.and_eq_true] at hz
    exact ⟨denC_nz hb hz.1 h, denL_nz hz.2 r⟩
  | [], _ :: _, _, h => h.elim
  | _ :: _, [], _, h => h.elim
theorem den1_nz {x : Value} : ∀ {y : V1}, nz1 y = true → den1 β x y → den1 β1 x y
  | .c _, hz, h => denC_nz hb hz h
  | .a _, hz, ⟨vs, e, h⟩ => ⟨vs, e, denL_nz hb hz h⟩
theorem denL1_nz : ∀ {xs : List Value} {l : List V1}, l.all nz1 = true → denL1 β xs l → denL1 β1 xs l
  | [], [], _, _ => trivial
  | _ :: _, _ :: _, hz, ⟨h, r⟩ => by
    simp only [List.all_cons, Bool.and_eq_true] at hz
    exact ⟨den1_nz hb hz.1 h, denL1_nz hz.2 r⟩
  | [], _ :: _, _, h => h.elim
  | _ :: _, [], _, h => h.elim
theorem denS_nz {x : Value} : ∀ {y : SV}, nzS y = true → denS β x y → denS β1 x y
  | .o _, hz, h => den1_nz hb hz h
  | .t _, hz, ⟨vs, e, h⟩ => ⟨vs, e, denL1_nz hb hz h⟩
theorem holds_nz {w : World} {m : Nm} {k : Blk} (hz : nzB k.k) (h : holds w β m k) : holds w β1 m k :=
  ⟨h.fits, h.need, fun hk => (h.there hk).imp id fun ⟨c, T, fz, h1, h2, h3, h4⟩ => ⟨c, T, fz, h1, h2, h3, fun i j x hx => let ⟨y, hy, hd⟩ := h4 i j x hx; ⟨y, hy, denC_nz hb (hz i j x hx) hd⟩⟩, h.mth⟩
variable {m : Nm} {off : Nat} (hm : β 0 = some m) (hsz : m.sz = 1) (hm1 : β1 0 = some ⟨m.b, m.o + off, 1, m.room - off⟩)
include hm hsz hm1
theorem denC_sh {x : Value} : ∀ {c : C}, skOk c = true → denC β x (skC off c) → denC β1 x c
  | .v _, _, h => h
  | .p n _ _, hz, ⟨m, h, e⟩ => ⟨m, by rw [hb n (fun e => by subst e; cases hz)]; exact h, e⟩
  | .s 0 o n sz, hz, h => by
    have hx' : denC β x (.s 0 (off + o) n sz) := h
    obtain ⟨Ad, cap, mm, g1, g2, g3, g4, g5, g6⟩ := hx'
    rw [hm] at g1
    obtain rfl := Option.some.inj g1
    have hs1 : sz = 1 := g3.symm.trans hsz
    refine ⟨Ad, cap, _, hm1, g2, hs1.symm, g4, g5, g6.imp id fun ⟨e1, e2⟩ => ⟨?_, ?_⟩⟩
    · rw [e1, hsz]
      simp [Nat.add_assoc]
    · rw [hsz] at e2
      show (o + cap) * 1 ≤ m.room - off
      omega
  | .s (n + 1) _ _ _, hz, ⟨A, cap, m, h, r⟩ => ⟨A, cap, m, by rw [hb (n + 1) (Nat.succ_ne_zero n)]; exact h, r⟩
  | .z, _, h => h
  | .u, _, _ => trivial
  | .m n, hz, ⟨m, h, e⟩ => ⟨m, by rw [hb n (fun e => by subst e; cases hz)]; exact h, e⟩
theorem denL_sh : ∀ {xs : List Value} {l : List C}, l.all skOk = true → denL β xs (l.map (skC off)) → denL β1 xs l
  | [], [], _, _ => trivial
  | _ :: _, _ :: _, hz, ⟨h, r⟩ => by
    simp only [List.all_cons, Bool.and_eq_true] at hz
    exact ⟨denC_sh hb hm hsz hm1 hz.1 h, denL_sh hz.2 r⟩
  | [], _ :: _, _, h => h.elim
  | _ :: _, [], _, h => h.elim
theorem den1_sh {x : Value} : ∀ {y : V1}, skOk1 y = true → den1 β x (sk1 off y) → den1 β1 x y
  | .c _, hz, h => denC_sh hb hm hsz hm1 hz h
  | .a _, hz, ⟨vs, e, h⟩ => ⟨vs, e, denL_sh hb hm hsz hm1 hz h⟩
theorem denL1_sh : ∀ {xs : List Value} {l : List V1}, l.all skOk1 = true → denL1 β xs (l.map (sk1 off)) → denL1 β1 xs l
  | [], [], _, _ => trivial
  | _ :: _, _ :: _, hz, ⟨h, r⟩ => by
    simp only [List.all_cons, Bool.and_eq_true] at hz
    exact ⟨den1_sh hb hm hsz hm1 hz.1 h, denL1_sh hz.2 r⟩
  | [], _ :: _, _, h => h.elim
  | _ :: _, [], _, h => h.elim
theorem denS_sh {x : Value} : ∀ {y : SV}, skOkS y = true → denS β x (skS off y) → denS β1 x y
  | .o _, hz, h => den1_sh hb hm hsz hm1 hz h
  | .t _, hz, ⟨vs, e, h⟩ => ⟨vs, e, denL1_sh hb hm hsz hm1 hz h⟩
theorem denLS_sh : ∀ {xs : List Value} {l : List SV}, l.all skOkS = true → denLS β xs (l.map (skS off)) → denLS β1 xs l
  | [], [], _, _ => trivial
  | _ :: _, _ :: _, hz, ⟨h, r⟩ => by
    simp only [List.all_cons, Bool.and_eq_true] at hz
    exact ⟨denS_sh hb hm hsz hm1 hz.1 h, denLS_sh hz.2 r⟩
  | [], _ :: _, _, h => h.elim
  | _ :: _, [], _, h => h.elim
end
theorem FC.shiftN {P : Program} {g : FuncId} {k : IntKind} {xs : List Int} {off : Nat} {args0 : List SV} {R0 R1 : Mem} {v1 : SV} (hoff : off ≤ xs.length) (ha : args0.all skOkS = true)
    (h0 : nzM R0) (h1 : nzM R1) (hv : nzS v1 = true)
    (h : FC P g args0 (some ⟨.ints k (xs.drop off), false⟩ :: R0) v1 (some ⟨.ints k (xs.drop off), false⟩ :: R1)) :
    FC P g (args0.map (skS off)) (some ⟨.ints k xs, false⟩ :: R0) v1 (some ⟨.ints k xs, false⟩ :: R1) := by
  refine ⟨h.can, h.len, h.bv, ?_, fun β w vals hT hdef hSt hd => ?_⟩
  · exact ⟨trivial, h.bm1.2⟩
  obtain ⟨m, hm, hh⟩ := hSt.names 0 _ rfl
  have hsz : m.sz = 1 := by
    rcases hh.fits with h1 | ⟨h1, _⟩
    · cases h1
    · exact h1
  have hneed : xs.length * 1 ≤ m.room := hh.need
  obtain ⟨β1, hβ1⟩ : ∃ β1 : Bet, β1 = fun q => if q = 0 then some ⟨m.b, m.o + off, 1, m.room - off⟩ else β q := ⟨_, rfl⟩
  have h10 : β1 0 = some ⟨m.b, m.o + off, 1, m.room - off⟩ := by rw [hβ1]; rfl
  have hb1 : ∀ n, n ≠ 0 → β1 n = β n := fun n hn => by rw [hβ1]; simp [hn]
  have hholds : holds w β1 ⟨m.b, m.o + off, 1, m.room - off⟩ ⟨.ints k (xs.drop off), false⟩ := by
    refine ⟨.inr ⟨rfl, Nat.one_pos, fun _ _ => rfl⟩, ?_, fun _ => ?_, fun s es e => by cases e⟩
    · show (xs.drop off).length * 1 ≤ m.room - off
      rw [List.length_drop]; omega
    · rcases hh.there rfl with h1 | ⟨c, T, fz, h1, h2, h3, h4⟩
      · exact .inl (show m.room - off = 0 by omega)
      · refine .inr ⟨c, T, fz, h1, show m.o + off + (m.room - off) ≤ c.size by omega, (fun e => by cases e), fun i j x hx => ?_⟩
        obtain ⟨hi, hx⟩ := Bk.at_some.1 hx
        have hi' : i < (xs.drop off).length := hi
        rw [List.length_drop] at hi'
        obtain ⟨y, hy, hdy⟩ := h4 (i + off) j x (Bk.at_some.2 ⟨by show i + off < xs.length; omega, by
          have e : (xs.drop off).getD i 0 = xs.getD (i + off) 0 := by simp [List.getD_eq_getElem?_getD, List.getElem?_drop, Nat.add_comm]
          have hx' : ([C.v (.int k ((xs.drop off).getD i 0))] : List C)[j]? = some x := hx
          rw [e] at hx'
          exact hx'⟩)
        refine ⟨y, ?_, ?_⟩
        · show c[m.o + off + i * 1 + j]? = some y
          rw [hsz] at hy
          rw [← hy]
          congr 1
          omega
        · cases j with
          | zero =>
            have hx' : C.v (.int k ((xs.drop off).getD i 0)) = x := Option.some.inj hx
            subst hx'
            exact hdy
          | succ j => cases hx
  -- a block that may be written has a name that is not 0
  have wr0 : ∀ (ys : List Int) (R : Mem) (q : Nat) (b : Blk), Mem.get (some ⟨.ints k ys, false⟩ :: R) q = some b → b.wr = true → ∃ p, q = p + 1 ∧ Mem.get R p = some b := fun ys R q b hq hw => by
    cases q with
    | zero => obtain rfl := Option.some.inj hq; cases hw
    | succ p => exact ⟨p, rfl, hq⟩
  have hA : ∀ b, wrA β1 (some ⟨.ints k (xs.drop off), false⟩ :: R0) b ↔ wrA β (some ⟨.ints k xs, false⟩ :: R0) b := fun b => by
    constructor
    · rintro ⟨n, k', mm, e1, e2, e3, e4, e5⟩
      obtain ⟨p, rfl, e6⟩ := wr0 _ _ _ _ e1 e2
      exact ⟨p + 1, k', mm, e6, e2, by rw [← hb1 (p + 1) (Nat.succ_ne_zero p)]; exact e3, e4, e5⟩
    · rintro ⟨n, k', mm, e1, e2, e3, e4, e5⟩
      obtain ⟨p, rfl, e6⟩ := wr0 _ _ _ _ e1 e2
      exact ⟨p + 1, k', mm, e6, e2, by rw [hb1 (p + 1) (Nat.succ_ne_zero p)]; exact e3, e4, e5⟩
  have hrm : (⟨m.b, m.o + off, 1, m.room - off⟩ : Nm).room ≠ 0 → m.room ≠ 0 := fun e1 e2 => e1 (show m.room - off = 0 by omega)
  have hSt1 : St w (wrA β1 (some ⟨.ints k (xs.drop off), false⟩ :: R0)) β1 (some ⟨.ints k (xs.drop off), false⟩ :: R0) w := by
    refine ⟨rfl, rfl, rfl, Nat.le_refl _, fun _ _ _ => rfl, fun q b hq => ?_, fun q q' b b' a a' hne hq hq' hw ea ea' er er' => ?_, fun q b a hq hw ea er => ?_⟩
    · cases q with
      | zero => obtain rfl := Option.some.inj hq; exact ⟨_, h10, hholds⟩
      | succ p =>
        obtain ⟨mm, e1, e2⟩ := hSt.names (p + 1) b hq
        exact ⟨mm, by rw [hb1 (p + 1) (Nat.succ_ne_zero p)]; exact e1, holds_nz hb1 (nzM.get h0 (q := p) hq) e2⟩
    · obtain ⟨p, rfl, e6⟩ := wr0 _ _ _ _ hq hw
      rw [hb1 (p + 1) (Nat.succ_ne_zero p)] at ea
      cases q' with
      | zero =>
        rw [h10] at ea'
        obtain rfl := Option.some.inj ea'
        exact hSt.sep (p + 1) 0 b _ a m hne e6 rfl hw ea hm er (hrm er')
      | succ p' =>
        rw [hb1 (p' + 1) (Nat.succ_ne_zero p')] at ea'
        exact hSt.sep (p + 1) (p' + 1) b b' a a' hne e6 hq' hw ea ea' er er'
    · obtain ⟨p, rfl, e6⟩ := wr0 _ _ _ _ hq hw
      rw [hb1 (p + 1) (Nat.succ_ne_zero p)] at ea
      exact .inl ((hA _).2 ⟨p + 1, b, a, e6, hw, ea, er, rfl⟩)
  refine (h.run β1 w vals ?_ ?_ hSt1 (denLS_sh hb1 hm hsz h10 ha hd)).mono ?_
  · intro q hq
    have : q ≠ 0 := by have : R0.length + 1 ≤ q := hq; omega
    rw [hb1 q this]
    exact hT q hq
  · intro q hq
    by_cases h0 : q = 0
    · subst h0; rw [h10]; simp
    · rw [hb1 q h0]; exact hdef q hq
  · rintro e w' ⟨v', β', he, hk, hT', hst, hdv⟩
    obtain ⟨β2, hβ2⟩ : ∃ β2 : Bet, β2 = fun q => if q = 0 then some m else β' q := ⟨_, rfl⟩
    have h20 : β2 0 = some m := by rw [hβ2]; rfl
    have hb2 : ∀ n, n ≠ 0 → β2 n = β' n := fun n hn => by rw [hβ2]; simp [hn]
    have h0' : β' 0 = some ⟨m.b, m.o + off, 1, m.room - off⟩ := by rw [hk 0 (Nat.succ_pos _), h10]
    -- where a block that is written lies
    have far : ∀ (p : Nat) (b : Blk) (a : Nm), Mem.get R1 p = some b → b.wr = true → β' (p + 1) = some a → a.room ≠ 0 → m.room ≠ 0 → a.b ≠ m.b := fun p b a hp hw ha hr hr' => by
      rcases hst.perm (p + 1) b a hp hw ha hr with hq | hq
      · obtain ⟨n, k', mm, e1, e2, e3, e4, e5⟩ := (hA _).1 hq
        rw [← e5]
        have hn0 : n ≠ 0 := fun e => by subst e; obtain rfl := Option.some.inj e1; cases e2
        exact hSt.sep n 0 k' _ mm m hn0 e1 rfl e2 e3 hm e4 hr'
      · have := hh.lt hr'
        omega
    refine ⟨v', β2, he, fun q hq => ?_, fun q hq => ?_, ⟨hst.os, hst.tape, hst.output, hst.size, fun q hq hA' => hst.frame q hq fun hn => hA' ((hA q).1 hn), fun q b hq => ?_, fun q q' b b' a a' hne hq hq' hw ea ea' er er' => ?_, fun q b a hq hw ea er => ?_⟩, denS_nz hb2 hv hdv⟩
    · by_cases e0 : q = 0
      · subst e0; rw [h20, hm]
      · rw [hb2 q e0, hk q hq, hb1 q e0]
    · have e0 : q ≠ 0 := by have : R1.length + 1 ≤ q := hq; omega
      rw [hb2 q e0]
      exact hT' q hq
    · cases q with
      | zero =>
        obtain rfl := Option.some.inj hq
        refine ⟨m, h20, ?_⟩
        have h2 : holds w' β m ⟨.ints k xs, false⟩ := hh.heap (by
          by_cases e0 : m.room = 0
          · exact .inl e0
          · refine .inr (hst.frame _ (hh.lt e0) fun hn => ?_)
            obtain ⟨n, k', mm, e1, e2, e3, e4, e5⟩ := (hA _).1 hn
            have hn0 : n ≠ 0 := fun e => by subst e; obtain rfl := Option.some.inj e1; cases e2
            exact hSt.sep n 0 k' _ mm m hn0 e1 rfl e2 e3 hm e4 e0 e5)
        exact ⟨h2.fits, h2.need, fun hk => (h2.there hk).imp id fun ⟨c, T, fz, g1, g2, g3, g4⟩ => ⟨c, T, fz, g1, g2, g3, fun i j x hx => by
          obtain ⟨y, hy, hd⟩ := g4 i j x hx
          refine ⟨y, hy, ?_⟩
          obtain ⟨_, hx'⟩ := Bk.at_some.1 hx
          cases j with
          | zero => obtain rfl := Option.some.inj hx'; exact hd
          | succ j => cases hx'⟩, h2.mth⟩
      | succ p =>
        obtain ⟨mm, e1, e2⟩ := hst.names (p + 1) b hq
        exact ⟨mm, by rw [hb2 (p + 1) (Nat.succ_ne_zero p)]; exact e1, holds_nz hb2 (nzM.get h1 (q := p) hq) e2⟩
    · obtain ⟨p, rfl, e6⟩ := wr0 _ _ _ _ hq hw
      rw [hb2 (p + 1) (Nat.succ_ne_zero p)] at ea
      cases q' with
      | zero =>
        rw [h20] at ea'
        obtain rfl := Option.some.inj ea'
        exact far p b a e6 hw ea er er'
      | succ p' =>
        rw [hb2 (p' + 1) (Nat.succ_ne_zero p')] at ea'
        exact hst.sep (p + 1) (p' + 1) b b' a a' hne e6 hq' hw ea ea' er er'
    · obtain ⟨p, rfl, e6⟩ := wr0 _ _ _ _ hq hw
      rw [hb2 (p + 1) (Nat.succ_ne_zero p)] at ea
      rcases hst.perm (p + 1) b a e6 hw ea er with hq | hq
      · exact .inl ((hA _).1 hq)
      · exact .inr hq
end Go.Sx
namespace Go.Sx
open Go.RowKit

def betL (l : List Nm) : Bet := fun n => l[n]?
/-- all names are for reading, and lie there -/
def roM (w : World) (β : Bet) : Mem → List Nm → Prop
  | [], [] => True
  | some k :: m, a :: l => (k.wr = false ∧ holds w β a k) ∧ roM w β m l
  | _, _ => False
theorem roM_length {w : World} {β : Bet} : ∀ {m : Mem} {l : List Nm}, roM w β m l → m.length = l.length
  | [], [], _ => rfl
  | some _ :: _, _ :: _, ⟨_, h⟩ => congrArg (· + 1) (roM_length h)
  | none :: _, _ :: _, h => h.elim
  | [], _ :: _, h => h.elim
  | some _ :: _, [], h => h.elim
  | none :: _, [], h => h.elim
theorem roM_get {w : World} {β : Bet} : ∀ {m : Mem} {l : List Nm} (n : Nat) (k : Blk), roM w β m l → m.get n = some k → k.wr = false ∧ ∃ a, l[n]? = some a ∧ holds w β a k
  | some k' :: m, a :: l, 0, k, ⟨h, _⟩, e => by simp only [Mem.get, Option.some.injEq] at e; subst e; exact ⟨h.1, a, rfl, h.2⟩
  | some k' :: m, a :: l, n + 1, k, ⟨_, h⟩, e => by simpa using roM_get (m := m) (l := l) n k h e
  | none :: _, _ :: _, _, _, h, _ => h.elim
  | [], _, _, _, _, e => by cases e
  | some _ :: _, [], _, _, h, _ => h.elim
  | none :: _, [], _, _, h, _ => h.elim

/-- THE LAW's CALL -/
theorem law_calls {P : Program} {g : FuncId} {args0 : List SV} {m0 m1 : Mem} (h : FC P g args0 m0 (boo true) m1) (l : List Nm) (w : World) (vals : List Value) (hm : roM w (betL l) m0 l) (hd : denLS (betL l) vals args0) :
    Calls P g vals.toArray w fun e w' => e = .returned (.bool true) ∧ Below w.heap.size w w' := by
  have hlen := roM_length hm
  have hno : ∀ b, ¬ wrA (betL l) m0 b := fun b ⟨n, k, m, hk, hwr, _⟩ => by
    have := (roM_get n k hm hk).1
    rw [this] at hwr; cases hwr
  have hSt : St w (wrA (betL l) m0) (betL l) m0 w := by
    refine ⟨rfl, rfl, rfl, Nat.le_refl _, fun _ _ _ => rfl, fun n k hk => ?_, fun n n' k k' m m' _ hk _ hwr => ?_, fun n k m hk hwr => ?_⟩
    · obtain ⟨_, a, ha, hh⟩ := roM_get n k hm hk
      exact ⟨a, ha, hh⟩
    · have := (roM_get n k hm hk).1
      rw [this] at hwr; cases hwr
    · have := (roM_get n k hm hk).1
      rw [this] at hwr; cases hwr
  refine (h.run (betL l) w vals (fun n hn => ?_) (fun n hn => ?_) hSt hd).mono fun e w' ⟨v', β', he, _, _, hS, hv⟩ => ?_
  · unfold betL; exact List.getElem?_eq_none (by omega)
  · unfold betL; rw [List.getElem?_eq_getElem (by omega)]; exact Option.some_ne_none _
  · have : v' = .bool true := hv
    subst this
    exact ⟨he, hS.os, hS.tape, hS.output, hS.size, fun k hk => hS.frame k hk (hno k)⟩

/-- a slice of numbers that came in -/
def IsRowI (k : IntKind) (w : World) (a : Option Addr) (len cap : Nat) (zs : List Int) : Prop :=
  (a = none ∧ len = 0 ∧ cap = 0 ∧ zs = []) ∨
  ∃ x, a = some x ∧ len ≤ cap ∧ cap ≤ maxLen ∧ zs.length = cap ∧ (∀ i, i < zs.length → w.cell? (x.add i) = some (.int k (zs.getD i 0))) ∧ ∀ n ∈ zs, (Lit.int k n).wf = true

theorem cell_in {w : World} {x : Addr} {v : Value} (h : w.cell? x = some v) : ∃ c T fz, w.heap[x.block]? = some (.cells c T fz) ∧ c[x.off]? = some v := by
  unfold World.cell? at h
  split at h
  · rename_i c T fz hb
    split at h
    · cases h
    · exact ⟨c, T, fz, hb, h⟩
  · cases h

/-- it has a name: what is read of it are its elements -/
theorem ints_name {k : IntKind} {w : World} {a : Option Addr} {len cap : Nat} {zs : List Int} (h : IsRowI k w a len cap zs) :
    ∃ m : Nm, ∀ β : Bet, holds w β m ⟨.ints k (zs.take len), false⟩ ∧ ∀ n, β n = some m → denC β (.slice a len cap) (.s n 0 (zs.take len).length 1) := by
  have dull : ∀ (a : Option Addr) (len cap : Nat), len = 0 → cap = 0 → ∃ m : Nm, ∀ β : Bet, holds w β m ⟨.ints k ([] : List Int), false⟩ ∧ ∀ n, β n = some m → denC β (.slice a len cap) (.s n 0 0 1) := by
    intro a len cap hl hc
    subst hl; subst hc
    exact ⟨⟨0, 0, 1, 0⟩, fun β => ⟨⟨.inr ⟨rfl, Nat.one_pos, fun i hi => rfl⟩, Nat.le_refl _, fun _ => .inl rfl, fun _ _ he => by cases he⟩, fun n hn => ⟨a, 0, _, hn, rfl, rfl, Nat.le_refl _, Nat.zero_le _, .inl rfl⟩⟩⟩
  rcases h with ⟨rfl, rfl, rfl, rfl⟩ | ⟨x, rfl, hl, hm, hz, hcell, _⟩
  · exact dull _ _ _ rfl rfl
  · by_cases h0 : cap = 0
    · subst h0
      obtain rfl : len = 0 := by omega
      obtain rfl : zs = [] := List.eq_nil_of_length_eq_zero hz
      exact dull _ _ _ rfl rfl
    · have hc0 := hcell 0 (by omega)
      have hs : x.spot = none := by simpa [Addr.add] using World.cell?_spot hc0
      obtain ⟨b, off, spot⟩ := x
      simp only at hs
      subst hs
      have hcell' : ∀ i, i < cap → w.cell? ⟨b, off + i, none⟩ = some (.int k (zs.getD i 0)) := by
        intro i hi
        have := hcell i (by omega)
        by_cases hi0 : i = 0
        · subst hi0; simpa [Addr.add] using this
        · simpa [Addr.add, hi0] using this
      obtain ⟨c, T, fz, hb, _⟩ := cell_in (hcell' 0 (by omega))
      have hin : ∀ i, i < cap → c[off + i]? = some (.int k (zs.getD i 0)) := by
        intro i hi
        obtain ⟨c', T', fz', hb', hv⟩ := cell_in (hcell' i hi)
        simp only at hb hb' hv
        rw [hb] at hb'; cases hb'
        exact hv
      have hlen : (zs.take len).length = len := by simp; omega
      refine ⟨⟨b, off, 1, cap⟩, fun β => ⟨⟨.inr ⟨rfl, Nat.one_pos, fun i hi => rfl⟩, ?_, fun _ => .inr ⟨c, T, fz, hb, ?_, (by intro h; cases h), ?_⟩, fun _ _ he => by cases he⟩, fun n hn => ?_⟩⟩
      · show (zs.take len).length * 1 ≤ cap
        omega
      · have := hin (cap - 1) (by omega)
        have : off + (cap - 1) < c.size := by
          rcases Nat.lt_or_ge (off + (cap - 1)) c.size with h | h
          · exact h
          · rw [Array.getElem?_eq_none h] at this; cases this
        show off + cap ≤ c.size
        omega
      · intro i j x hx
        rw [Bk.at_some] at hx
        obtain ⟨hi, hj⟩ := hx
        replace hi : i < (zs.take len).length := hi
        replace hj : [C.v (.int k ((zs.take len).getD i 0))][j]? = some x := hj
        obtain rfl : j = 0 := by
          cases j with
          | zero => rfl
          | succ j => simp at hj
        simp only [List.getElem?_cons_zero, Option.some.injEq] at hj
        subst hj
        refine ⟨_, show c[off + i * 1 + 0]? = _ by rw [Nat.mul_one, Nat.add_zero]; exact hin i (by omega), ?_⟩
        show Value.int k (zs.getD i 0) = Value.int k ((zs.take len).getD i 0)
        rw [List.getD, List.getD, List.getElem?_take_of_lt (by omega)]
      · rw [hlen]
        exact ⟨_, cap, _, hn, rfl, rfl, hl, hm, .inr ⟨by simp, by simp⟩⟩
end Go.Sx
namespace Go.Sx

inductive FK where
  | i (k : IntKind)
  | b
inductive Sh where
  | c (k : FK)
  | s (ks : List FK)

def fkOk : FK → Value → Prop
  | .i k, v => ∃ n, v = .int k n ∧ k.min ≤ n ∧ n ≤ k.max
  | .b, v => ∃ b, v = .bool b
def fksOk : List FK → List Value → Prop
  | [], vs => vs = []
  | k :: r, vs => ∃ v vs', vs = v :: vs' ∧ fkOk k v ∧ fksOk r vs'
theorem fksOk_len : ∀ {ks : List FK} {vs : List Value}, fksOk ks vs → vs.length = ks.length
  | [], vs, h => by have e : vs = [] := h; subst e; rfl
  | _ :: r, _, ⟨_, vs', e, _, h⟩ => by rw [e, List.length_cons, List.length_cons, fksOk_len h]
def IsRowsF (ks : List FK) (w : World) (a : Option Addr) (len cap : Nat) (rs : List (List Value)) : Prop :=
  (a = none ∧ len = 0 ∧ cap = 0 ∧ rs = []) ∨
  ∃ x, a = some x ∧ len ≤ cap ∧ cap ≤ maxLen ∧ rs.length = cap ∧ ∀ i r, rs[i]? = some r → fksOk ks r ∧ ∀ j v, r[j]? = some v → w.cell? (x.add (i * ks.length + j)) = some v
def shOk (w : World) : Sh → Value → Prop
  | .c k, v => fkOk k v
  | .s ks, v => ∃ a len cap rs, v = .slice a len cap ∧ IsRowsF ks w a len cap rs
def shsOk (w : World) : List Sh → List Value → Prop
  | [], vs => vs = []
  | k :: r, vs => ∃ v vs', vs = v :: vs' ∧ shOk w k v ∧ shsOk w r vs'
theorem shsOk_len {w : World} : ∀ {ks : List Sh} {vs : List Value}, shsOk w ks vs → vs.length = ks.length
  | [], vs, h => by have e : vs = [] := h; subst e; rfl
  | _ :: r, _, ⟨_, vs', e, _, h⟩ => by rw [e, List.length_cons, List.length_cons, shsOk_len h]
theorem shsOk_app {w : World} : ∀ {ks ls : List Sh} {vs us : List Value}, shsOk w ks vs → shsOk w ls us → shsOk w (ks ++ ls) (vs ++ us)
  | [], _, _, _, h, k => by rw [show _ = [] from h]; exact k
  | _ :: _, _, _, _, ⟨v, vs', e, h1, h2⟩, k => ⟨v, vs' ++ _, by rw [e]; rfl, h1, shsOk_app h2 k⟩

def flatOf : List Sh → Option (List FK)
  | [] => some []
  | .c k :: r => (match flatOf r with | some l => some (k :: l) | none => none)
  | .s _ :: _ => none
theorem flatOf_ok {w : World} : ∀ {l : List Sh} {ks : List FK} {vs : List Value}, flatOf l = some ks → shsOk w l vs → fksOk ks vs
  | [], ks, vs, h, k => by simp [flatOf] at h; subst h; exact k
  | .c k :: r, ks, vs, h, ⟨v, vs', e, h1, h2⟩ => by
    unfold flatOf at h
    split at h
    · rename_i l hl
      simp only [Option.some.injEq] at h
      subst h
      exact ⟨v, vs', e, h1, flatOf_ok hl h2⟩
    · cases h
  | .s _ :: _, _, _, h, _ => by simp [flatOf] at h
def rep (n : Nat) (l : List Sh) : List Sh := match n with | 0 => [] | n + 1 => l ++ rep n l
theorem rep_length (l : List Sh) : ∀ n, (rep n l).length = n * l.length
  | 0 => by simp [rep]
  | n + 1 => by rw [rep, List.length_append, rep_length l n, Nat.succ_mul, Nat.add_comm]
def shFs (f : TypeId → Option (List Sh)) (P : Program) : List Field → Nat → Option (List Sh)
  | [], _ => some []
  | fd :: r, off => if fd.offset = off then (match f fd.type with
    | some l => if l.length = P.cellsOf fd.type then (match shFs f P r (off + l.length) with
      | some m => some (l ++ m)
      | none => none) else none
    | none => none) else none
def shT (P : Program) : Nat → TypeId → Option (List Sh)
  | 0, _ => none
  | d + 1, t => match P.underlying t with
    | some .bool => some [.c .b]
    | some (.int k) => some [.c (.i k)]
    | some (.slice e) => (match shT P d e with
      | some l => (match flatOf l with
        | some ks => if ks.length = P.cellsOf e then some [.s ks] else none
        | none => none)
      | none => none)
    | some (.struct fs) => (match shFs (shT P d) P fs.toList 0 with
      | some l => if l.length = P.cellsOf t then some l else none
      | none => none)
    | some (.array n e) => (match shT P d e with
      | some l => if l.length = P.cellsOf e ∧ n * l.length = P.cellsOf t then some (rep n l) else none
      | none => none)
    | _ => none

theorem flatOf_length : ∀ {l : List Sh} {ks : List FK}, flatOf l = some ks → ks.length = l.length
  | [], ks, h => by simp [flatOf] at h; subst h; rfl
  | .c k :: r, ks, h => by
    unfold flatOf at h
    split at h
    · rename_i l hl
      simp only [Option.some.injEq] at h
      subst h
      rw [List.length_cons, List.length_cons, flatOf_length hl]
    · cases h
  | .s _ :: _, _, h => by simp [flatOf] at h

theorem Addr.add_two (a : Addr) (n m : Nat) : (a.add n).add m = a.add (n + m) := by
  unfold Addr.add
  by_cases hn : n = 0
  · subst hn; simp
  · by_cases hm : m = 0
    · subst hm; simp [hn]
    · simp [hn, hm, Nat.add_assoc]

section
variable {H : Type} {enc : TypeId × Value → H} {P : Program} {w : World} {base : Nat} {held : Bool}
theorem cells_get {a : Addr} {n : Nat} {cs : List Value} (h : w.cells? base a n = some cs) : cs.length = n ∧ ∀ j v, cs[j]? = some v → w.cell? (a.add j) = some v := by
  unfold World.cells? at h
  split at h
  · have hl := mapM_some_length h
    simp at hl
    refine ⟨hl, fun j v hj => ?_⟩
    have hlt : j < n := by have := (List.getElem?_eq_some_iff.1 hj).1; omega
    have := mapM_some_get h j j (by simp [hlt])
    rw [this]; exact hj
  · cases h
theorem sh_struct {f : TypeId → Option (List Sh)} {cs : List Value} (hf : ∀ t l off, f t = some l → l.length = P.cellsOf t → (∃ x fuel, DataW.trod enc P w base (fun _ => true) held fuel t ((cs.drop off).take (P.cellsOf t)) = some x) → shsOk w l ((cs.drop off).take (P.cellsOf t))) :
    ∀ (fs : List Field) (off : Nat) (l : List Sh), (∀ fd ∈ fs, ∃ x fuel, DataW.trod enc P w base (fun _ => true) held fuel fd.type ((cs.drop fd.offset).take (P.cellsOf fd.type)) = some x) → shFs f P fs off = some l → shsOk w l ((cs.drop off).take l.length)
  | [], off, l, _, h => by simp [shFs] at h; subst h; simp [shsOk]
  | fd :: r, off, l, hx, h => by
    unfold shFs at h
    split at h
    · rename_i ho
      subst ho
      split at h
      · rename_i l1 h1
        split at h
        · rename_i hl1
          split at h
          · rename_i m hm
            simp only [Option.some.injEq] at h
            subst h
            have a1 := hf fd.type l1 fd.offset h1 hl1 (hx fd (by simp))
            have a2 := sh_struct hf r _ m (fun fd' hfd => hx fd' (by simp [hfd])) hm
            rw [← hl1] at a1
            rw [List.length_append, List.take_add, List.drop_drop]
            exact shsOk_app a1 a2
          · cases h
        · cases h
      · cases h
    · cases h
theorem sh_array {l : List Sh} {sz : Nat} {cs : List Value} (hl : l.length = sz) : ∀ (n k : Nat), (∀ i, i < n → shsOk w l ((cs.drop ((k + i) * sz)).take sz)) → shsOk w (rep n l) ((cs.drop (k * sz)).take (n * sz))
  | 0, k, _ => by simp [rep, shsOk]
  | n + 1, k, h => by
    have a1 := h 0 (by omega)
    have a2 := sh_array hl n (k + 1) fun i hi => by have := h (i + 1) (by omega); rwa [show k + (i + 1) = k + 1 + i by omega] at this
    rw [rep, Nat.succ_mul, Nat.add_comm, List.take_add, List.drop_drop]
    rw [Nat.add_zero] at a1
    rw [show (k + 1) * sz = k * sz + sz by rw [Nat.succ_mul]] at a2
    exact shsOk_app a1 a2
theorem sh_open : ∀ (d fuel : Nat) (t : TypeId) (cs : List Value) (x : DataW H × List MemPlace) (l : List Sh), DataW.trod enc P w base (fun _ => true) held fuel t cs = some x → shT P d t = some l → shsOk w l cs := by
  intro d
  induction d with
  | zero => intro fuel t cs x l _ h; simp [shT] at h
  | succ d ih =>
    intro fuel t cs x l h hs
    unfold shT at hs
    split at hs
    · rename_i hu
      simp only [Option.some.injEq] at hs; subst hs
      obtain ⟨b, rfl, _⟩ := DataW.trod_bool hu h
      exact ⟨_, [], rfl, ⟨b, rfl⟩, rfl⟩
    · rename_i k hu
      simp only [Option.some.injEq] at hs; subst hs
      obtain ⟨n, rfl, _, hw⟩ := DataW.trod_int hu h
      simp only [Lit.wf, Bool.and_eq_true, decide_eq_true_eq] at hw
      exact ⟨_, [], rfl, ⟨n, rfl, hw.1, hw.2⟩, rfl⟩
    · rename_i e hu
      split at hs
      · rename_i l1 h1
        split at hs
        · rename_i ks hks
          split at hs
          · rename_i hlen
            simp only [Option.some.injEq] at hs; subst hs
            rcases DataW.trod_slice hu h with ⟨rfl, _⟩ | ⟨a, len, cap, elems, rest, m, _, rfl, _, hb, hle, hmax, hel, he, hr, _⟩
            · exact ⟨_, [], rfl, ⟨none, 0, 0, [], rfl, .inl ⟨rfl, rfl, rfl, rfl⟩⟩, rfl⟩
            · obtain ⟨hrl, hr⟩ := hr rfl
              have each : ∀ i, i < cap → ∃ c y, w.cells? base (a.add (i * P.cellsOf e)) (P.cellsOf e) = some c ∧ DataW.trod enc P w base (fun _ => true) held m e c = some y := by
                intro i hi
                by_cases hil : i < len
                · have hh := he i hil
                  rw [List.getElem?_eq_getElem (by omega)] at hh
                  rw [Option.bind_eq_some_iff] at hh
                  obtain ⟨c, h1, h2⟩ := hh
                  exact ⟨c, _, h1, h2⟩
                · have hh := hr (i - len) (by omega)
                  rw [show len + (i - len) = i by omega, List.getElem?_eq_getElem (by omega)] at hh
                  rw [Option.bind_eq_some_iff] at hh
                  obtain ⟨c, h1, h2⟩ := hh
                  exact ⟨c, _, h1, h2⟩
              refine ⟨_, [], rfl, ⟨some a, len, cap, (List.range cap).map fun i => (w.cells? base (a.add (i * P.cellsOf e)) (P.cellsOf e)).getD [], rfl, .inr ⟨a, rfl, hle, hmax, by simp, fun i r hi => ?_⟩⟩, rfl⟩
              have hic : i < cap := by have := (List.getElem?_eq_some_iff.1 hi).1; simpa using this
              obtain ⟨c, y, hc, hy⟩ := each i hic
              have : r = c := by
                rw [List.getElem?_map, List.getElem?_range hic] at hi
                simp only [Option.map_some, hc, Option.getD_some, Option.some.injEq] at hi
                exact hi.symm
              subst this
              refine ⟨flatOf_ok (w := w) hks (ih m e r y l1 hy h1), fun j v hj => ?_⟩
              have := (cells_get hc).2 j v hj
              rw [Addr.add_two] at this
              rw [hlen]; exact this
          · cases hs
        · cases hs
      · cases hs
    · rename_i fs hu
      split at hs
      · rename_i l1 h1
        split at hs
        · rename_i hlen
          simp only [Option.some.injEq] at hs; subst hs
          obtain ⟨xs, m, _, _, hcl, hxl, hx⟩ := DataW.trod_struct hu h
          have := sh_struct (enc := enc) (P := P) (w := w) (base := base) (held := held) (f := shT P d) (cs := cs) (fun t l off ht hl ⟨x, fuel, hx⟩ => ih fuel t _ x l hx ht) fs.toList 0 l1 (fun fd hfd => by
            obtain ⟨i, hi⟩ := List.getElem?_of_mem hfd
            have hi' : fs[i]? = some fd := by simpa using hi
            have hlt : i < xs.length := by rw [hxl]; have := (Array.getElem?_eq_some_iff.1 hi').1; exact this
            exact ⟨xs[i], m, by rw [hx i fd hi', List.getElem?_eq_getElem hlt]⟩) h1
          rw [List.drop_zero, hlen, ← hcl, List.take_length] at this
          exact this
        · cases hs
      · cases hs
    · rename_i n e hu
      split at hs
      · rename_i l1 h1
        split at hs
        · rename_i hlen
          simp only [Option.some.injEq] at hs; subst hs
          obtain ⟨xs, m, _, _, hcl, hxl, hx⟩ := DataW.trod_array hu h
          have := sh_array (w := w) (cs := cs) hlen.1 n 0 fun i hi => by
            rw [Nat.zero_add]
            have hh := hx i hi
            rw [List.getElem?_eq_getElem (by omega)] at hh
            exact ih m e _ _ l1 hh h1
          rw [Nat.zero_mul, List.drop_zero, ← hlen.1, hlen.2, ← hcl, List.take_length] at this
          exact this
        · cases hs
      · cases hs
    · cases hs
theorem open_agg {r : Reach} {b0 : Nat} {t : TypeId} {v : Value} {d : DataW H} {ps : List MemPlace} {l : List Sh} (hs : shT P 8 t = some l) (ha : isAggT P t = true) (hval : Value.okWide P w r b0 t v) (hd : DataW.Trod enc P w base (fun _ => true) held t v d ps) :
    ∃ vs : List Value, v = .agg vs.toArray ∧ shsOk w l vs := by
  obtain ⟨cs, rfl⟩ : ∃ cs, v = .agg cs := by
    unfold isAggT at ha
    unfold Value.okWide at hval
    split at ha
    · rename_i hu; rw [hu] at hval; obtain ⟨cs, e, _⟩ := hval; exact ⟨cs, e⟩
    · rename_i hu; rw [hu] at hval; obtain ⟨cs, e, _⟩ := hval; exact ⟨cs, e⟩
    · cases ha
  obtain ⟨fuel, hf⟩ := hd
  exact ⟨cs.toList, by simp, sh_open 8 fuel t _ _ l (by simpa [Value.cells] using hf) hs⟩
theorem open_rows {r : Reach} {b0 : Nat} {t e : TypeId} {v : Value} {d : DataW H} {ps : List MemPlace} {ks : List FK} (hs : shT P 8 t = some [.s ks]) (hu : P.underlying t = some (.slice e)) (hval : Value.okWide P w r b0 t v) (hd : DataW.Trod enc P w base (fun _ => true) held t v d ps) :
    ∃ a len cap rs, v = .slice a len cap ∧ IsRowsF ks w a len cap rs := by
  obtain ⟨a, len, cap, rfl⟩ := Go.WideShapes.okWide_slice hu hval
  obtain ⟨fuel, hf⟩ := hd
  obtain ⟨_, _, e1, ⟨a', len', cap', rs, e2, h⟩, _⟩ := sh_open 8 fuel t _ _ _ hf hs
  simp [Value.cells] at e1
  rw [← e1.1] at e2
  exact ⟨a', len', cap', rs, e2, h⟩
end

/-- the rows that came in have a name -/
theorem rows_name {α : Type} {ks : List FK} (hpos : 0 < ks.length) (E : α → List C) (Q : α → Prop) (d : α) (hE : ∀ r, fksOk ks r → ∃ a, r.map C.v = E a ∧ Q a) {w : World} {a : Option Addr} {len cap : Nat} {rs : List (List Value)} (h : IsRowsF ks w a len cap rs) :
    ∃ (xs : List α) (m : Nm), xs.length = len ∧ (∀ x ∈ xs, Q x) ∧ ∀ β : Bet, holds w β m ⟨.rows ks.length xs.length (fun i => E (xs.getD i d)), false⟩ ∧ ∀ n, β n = some m → denC β (.slice a len cap) (.s n 0 xs.length ks.length) := by
  have dull : ∀ (a : Option Addr), ∃ (xs : List α) (m : Nm), xs.length = 0 ∧ (∀ x ∈ xs, Q x) ∧ ∀ β : Bet, holds w β m ⟨.rows ks.length xs.length (fun i => E (xs.getD i d)), false⟩ ∧ ∀ n, β n = some m → denC β (.slice a 0 0) (.s n 0 xs.length ks.length) := by
    intro a
    exact ⟨[], ⟨0, 0, ks.length, 0⟩, rfl, by simp, fun β => ⟨⟨.inr ⟨rfl, hpos, fun i hi => absurd hi (Nat.not_lt_zero _)⟩, by simp [Bk.need, Bk.n], fun _ => .inl rfl, fun _ _ he => by cases he⟩, fun n hn => ⟨a, 0, _, hn, rfl, rfl, Nat.le_refl _, Nat.zero_le _, .inl rfl⟩⟩⟩
  rcases h with ⟨rfl, rfl, rfl, rfl⟩ | ⟨x, rfl, hl, hm, hz, hrow⟩
  · exact dull _
  · by_cases h0 : cap = 0
    · subst h0
      obtain rfl : len = 0 := by omega
      exact dull _
    · have typed : ∀ rs' : List (List Value), (∀ r ∈ rs', fksOk ks r) → ∃ xs : List α, xs.length = rs'.length ∧ (∀ x ∈ xs, Q x) ∧ ∀ i r, rs'[i]? = some r → r.map C.v = E (xs.getD i d) := by
        intro rs'
        induction rs' with
        | nil => intro _; exact ⟨[], rfl, by simp, by simp⟩
        | cons r rs' ih =>
          intro hr
          obtain ⟨xs, h1, h2, h3⟩ := ih fun r' hr' => hr r' (by simp [hr'])
          obtain ⟨y, hy, hQ⟩ := hE r (hr r (by simp))
          refine ⟨y :: xs, by simp [h1], by simpa using ⟨hQ, h2⟩, fun i r' hi => ?_⟩
          cases i with
          | zero => simp at hi; subst hi; simpa using hy
          | succ i => have := h3 i r' (by simpa using hi); simpa using this
      have hok : ∀ r ∈ rs, fksOk ks r := fun r hr => by obtain ⟨i, hi⟩ := List.getElem?_of_mem hr; exact (hrow i r hi).1
      obtain ⟨xs, hxl, hQ, hx⟩ := typed (rs.take len) fun r hr => hok r (List.mem_of_mem_take hr)
      have hxl' : xs.length = len := by rw [hxl, List.length_take]; omega
      obtain ⟨r0, hr0⟩ : ∃ r, rs[0]? = some r := ⟨rs[0], List.getElem?_eq_getElem (by omega)⟩
      have hl0 : r0.length = ks.length := fksOk_len (hrow 0 r0 hr0).1
      have hc0 := (hrow 0 r0 hr0).2 0 r0[0] (List.getElem?_eq_getElem (by omega))
      have hs : x.spot = none := by simpa [Addr.add] using World.cell?_spot hc0
      obtain ⟨b, off, spot⟩ := x
      simp only at hs
      subst hs
      have cellAt : ∀ i r j v, rs[i]? = some r → r[j]? = some v → w.cell? ⟨b, off + (i * ks.length + j), none⟩ = some v := by
        intro i r j v hi hj
        have := (hrow i r hi).2 j v hj
        by_cases h0 : i * ks.length + j = 0
        · rw [h0] at this ⊢; simpa [Addr.add] using this
        · unfold Addr.add at this; rw [if_neg h0] at this; exact this
      obtain ⟨c, T, fz, hb, _⟩ := cell_in (by simpa [Addr.add] using hc0)
      have hin : ∀ i r j v, rs[i]? = some r → r[j]? = some v → c[off + (i * ks.length + j)]? = some v := by
        intro i r j v hi hj
        obtain ⟨c', T', fz', hb', hc'⟩ := cell_in (cellAt i r j v hi hj)
        simp only at hb'
        rw [hb] at hb'
        simp only [Option.some.injEq, Obj.cells.injEq] at hb'
        obtain ⟨rfl, _, _⟩ := hb'
        exact hc'
      refine ⟨xs, ⟨b, off, ks.length, cap * ks.length⟩, hxl', hQ, fun β => ⟨⟨.inr ⟨rfl, hpos, fun i hi => ?_⟩, ?_, fun _ => .inr ⟨c, T, fz, hb, ?_, (fun h => by cases h), fun i j y hy => ?_⟩, fun _ _ he => by cases he⟩, fun n hn => ?_⟩⟩
      · simp only [Bk.row, Bk.sz]
        have hi' : i < len := by simpa [Bk.n, hxl'] using hi
        have hri : (rs.take len)[i]? = some rs[i] := by rw [List.getElem?_take_of_lt hi', List.getElem?_eq_getElem (by omega)]
        rw [← hx i _ hri, List.length_map]
        exact fksOk_len (hrow i _ (List.getElem?_eq_getElem (by omega))).1
      · simp only [Bk.need, Bk.n, Bk.sz, hxl']
        exact Nat.mul_le_mul_right _ hl
      · -- the last cell is there
        have hlast : rs[cap - 1]? = some rs[cap - 1] := List.getElem?_eq_getElem (by omega)
        have hll : (rs[cap - 1]).length = ks.length := fksOk_len (hrow _ _ hlast).1
        have := hin (cap - 1) _ (ks.length - 1) _ hlast (List.getElem?_eq_getElem (by omega))
        have hlt := (Array.getElem?_eq_some_iff.1 this).1
        have e : (cap - 1) * ks.length + (ks.length - 1) + 1 = cap * ks.length := by
          have : cap * ks.length = (cap - 1) * ks.length + ks.length := by
            conv => lhs; rw [show cap = (cap - 1) + 1 by omega, Nat.succ_mul]
          omega
        simp only
        omega
      · rw [Bk.at_some] at hy
        obtain ⟨hi, hj⟩ := hy
        have hi' : i < len := by simpa [Bk.n, hxl'] using hi
        have hri : (rs.take len)[i]? = some rs[i] := by rw [List.getElem?_take_of_lt hi', List.getElem?_eq_getElem (by omega)]
        simp only [Bk.row] at hj
        rw [← hx i _ hri, List.getElem?_map, Option.map_eq_some_iff] at hj
        obtain ⟨v, hv, rfl⟩ := hj
        exact ⟨v, by simp only; rw [Nat.add_assoc]; exact hin i _ j v (List.getElem?_eq_getElem (by omega)) hv, rfl⟩
      · refine ⟨some ⟨b, off, none⟩, cap, _, hn, by rw [hxl'], rfl, by omega, hm, .inr ⟨?_, ?_⟩⟩
        · simp
        · simp
/-- a slice of numbers -/
theorem IsRowsF.ints {k : IntKind} {w : World} {a : Option Addr} {len cap : Nat} {rs : List (List Value)} (h : IsRowsF [.i k] w a len cap rs) : ∃ zs : List Int, IsRowI k w a len cap zs := by
  rcases h with ⟨rfl, rfl, rfl, rfl⟩ | ⟨x, rfl, hl, hm, hz, hrow⟩
  · exact ⟨[], .inl ⟨rfl, rfl, rfl, rfl⟩⟩
  · refine ⟨rs.map fun r => match r with | [.int _ n] => n | _ => 0, .inr ⟨x, rfl, hl, hm, by simpa using hz, fun i hi => ?_, fun n hn => ?_⟩⟩
    · have hi' : i < rs.length := by simpa using hi
      obtain ⟨h1, h2⟩ := hrow i rs[i] (List.getElem?_eq_getElem hi')
      obtain ⟨v, vs', e, ⟨n, rfl, _⟩, e2⟩ := h1
      have e2' : vs' = [] := e2
      subst e2'
      have := h2 0 (.int k n) (by rw [e]; rfl)
      simp only [List.length_cons, List.length_nil, Nat.zero_add, Nat.mul_one, Nat.add_zero] at this
      rw [this, List.getD_eq_getElem?_getD, List.getElem?_map, List.getElem?_eq_getElem hi', e]
      rfl
    · rw [List.mem_map] at hn
      obtain ⟨r, hr, rfl⟩ := hn
      obtain ⟨i, hi⟩ := List.getElem?_of_mem hr
      obtain ⟨v, vs', e, ⟨n, rfl, h1, h2⟩, e2⟩ := (hrow i r hi).1
      have e2' : vs' = [] := e2
      subst e2' e
      simp [Lit.wf, h1, h2]
/-- the datum of a slice that came in has its length -/
theorem slice_datum {H : Type} {enc : TypeId × Value → H} {P : Program} {w : World} {base : Nat} {spare : Nat → Bool} {held : Bool} {t e : TypeId} {a : Option Addr} {len cap : Nat} {d : DataW H} {ps : List MemPlace}
    (hu : P.underlying t = some (.slice e)) (hd : DataW.Trod enc P w base spare held t (.slice a len cap) d ps) : (d = .nil ∧ len = 0) ∨ ∃ es sp, d = .slice es sp ∧ es.length = len := by
  obtain ⟨fuel, hf⟩ := hd
  rcases DataW.trod_slice hu hf with ⟨hc, hx⟩ | ⟨a', len', cap', elems, rest, n, _, hc, hx, _, _, _, hl, _⟩
  · simp [Value.cells] at hc
    simp only [Prod.mk.injEq] at hx
    exact .inl ⟨hx.1, hc.2.1⟩
  · simp [Value.cells] at hc
    simp only [Prod.mk.injEq] at hx
    exact .inr ⟨_, _, hx.1, by rw [List.length_map, hl, hc.2.1]⟩
end Go.Sx
