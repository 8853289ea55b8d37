/-
  A step of the evaluator over data, any number of steps: the machine does so.
-/
import Derived.Test.YtmpepleddmidfaaDoorDIC
set_option linter.unusedVariables false
/-
  Code beside the evaluator.
-/
namespace Go.DI
open Go

section
variable {T : Par} {w w' : World} {Γ Γ' : Cx} {s : St} {b : Frame} {a : Act} {k : List Item} {cs : List Frame}

theorem stepR_scope {P : Program} {c : Code} : Go.step P (lone (b.atR a (.code (.scope c) :: k)) cs w) = .next (lone (b.atR a (.code c :: .inScope c :: k)) cs w) :=
  step_lone_go (by simp [stepG, stepG.exec, Frame.atR])
theorem stepR_inScope {P : Program} {c : Code} : Go.step P (lone (b.atR a (.inScope c :: k)) cs w) = .next (lone (b.atR a k) cs w) :=
  step_lone_go (by simp [stepG, stepG.exec, Frame.atR])

theorem Arr.pass {P : Program} {m : Machine} {i : Item} {x : Xt} (hx : x ≠ .normal) (he : ∀ id, exitTo id (i :: k) = exitTo id k) (hg : ∀ l, gotoIn l (i :: k) = gotoIn l k) (h : Arr P m b (i :: k) cs x a w) : Arr P m b k cs x a w := by
  cases x with
  | normal => exact (hx rfl).elim
  | exit id => obtain ⟨k1, h1, h2⟩ := h; exact ⟨k1, h1, Eq.trans h2 (he id)⟩
  | goto l => obtain ⟨k1, h1, h2⟩ := h; exact ⟨k1, h1, Eq.trans h2 (hg l)⟩
  | ret => obtain ⟨k1, h1, h2⟩ := h; exact ⟨k1, h1, trivial⟩

theorem Goes.here {P : Program} {Γ0 : Cx} {w0 : World} {Q : Xt → List D → St → Prop} {x : Xt} {ts : List D} {m : Machine} (hx : x ≠ .normal) (hm : m = lone (b.atR a (.code x.jump :: k)) cs w) (hs : Sat Γ w s) (ha : RepA Γ a ts) (hf : Fwd Γ0 w0 Γ w) (hd : Marks w0.heap.size Γ w a.defers) (hq : Q x ts s) :
    Goes P b cs k m Γ0 w0 Q := by
  subst hm
  refine ⟨x, ts, s, a, w, Γ, hq, ?_, ha, hs, hf, hd⟩
  cases x with
  | normal => exact (hx rfl).elim
  | exit id => exact ⟨k, .refl _ _, rfl⟩
  | goto l => exact ⟨k, .refl _ _, rfl⟩
  | ret => exact ⟨k, .refl _ _, trivial⟩

theorem Goes.done {P : Program} {Γ0 : Cx} {w0 : World} {Q : Xt → List D → St → Prop} {ts : List D} {m : Machine} (hm : Steps P m (lone (b.atR a k) cs w)) (hs : Sat Γ w s) (ha : RepA Γ a ts) (hf : Fwd Γ0 w0 Γ w) (hd : Marks w0.heap.size Γ w a.defers) (hq : Q .normal ts s) :
    Goes P b cs k m Γ0 w0 Q := ⟨.normal, ts, s, a, w, Γ, hq, hm, ha, hs, hf, hd⟩

/-! ### a range over a function -/

theorem run_enterLoop {P : Program} (fn : FuncId) (tmps : Array Value) (params : Array Tmp) (assign body : Code) :
    (Instr.enterLoop fn tmps params assign body none).run P w =
      .ok ((w.alloc (.deferred (some []))).heap.size, [markOf w.heap.size])
        ((w.alloc (.deferred (some []))).alloc (.loop { state := .ready, pending := none, fn, tmps, params, assign, body, defers := w.heap.size })) := by
  simp [Instr.enterLoop, markOf]

theorem rangeFunc_sim {det : Bool} {f : Operand} {params : Array Tmp} {assign body : Code} {ts : List D} {K : Xt → List D → St → Prop} {Γ0 : Cx} {w0 : World} {g : FuncId} {vf vc : Array Value} {first cap : List D}
    (hb : b.roundOf = none) (hf0 : Fwd Γ0 w0 Γ w) (hs : Sat Γ w s) (ha : RepA Γ a ts) (hm : Marks w0.heap.size Γ w a.defers) (hv : a.eval f = .func (.func g) vf vc) (h1 : RepL (Rep Γ) vf.toList first) (h2 : RepL (Rep Γ) vc.toList cap)
    (h : SimD T (.call det g (first ++ [.yield s.obs.length] ++ cap) (s.add (.loop .ready none ts params.toList assign body))) fun r => dCode.dEnd s.obs.length ts r.s K) :
    Goes T.P b cs k (lone (b.atR a (.code (.rangeFunc f params assign body) :: k)) cs w) Γ0 w0 K := by
  have hn : w0.heap.size ≤ w.heap.size := hf0.size
  -- the two new blocks
  obtain ⟨hs1, hf1⟩ := hs.same (w' := w.alloc (.deferred (some []))) rfl rfl rfl (by rw [World.size_alloc]; omega) (fun c hc => heap_alloc_lt w _ hc)
  generalize hL : ({ state := .ready, pending := none, fn := b.fn, tmps := a.tmps, params, assign, body, defers := w.heap.size } : Loop) = L
  obtain ⟨hs2, hf2⟩ := hs1.add (o := .loop L) (ob := .loop .ready none ts params.toList assign body)
    ⟨L, heap_alloc_self _ _, by rw [← hL], by rw [← hL]; rfl, by rw [← hL]; exact (hf1.repL ha).mono (fun _ _ h => h.addρ), by rw [← hL], by rw [← hL], by rw [← hL]⟩
  have hrun := run_enterLoop (P := T.P) (w := w) b.fn a.tmps params assign body
  rw [hL] at hrun
  generalize hw1 : w.alloc (.deferred (some [])) = w1 at *
  generalize hw2 : w1.alloc (.loop L) = w2 at *
  have hw1s : w1.heap.size = w.heap.size + 1 := by rw [← hw1, World.size_alloc]
  have hw2s : w2.heap.size = w.heap.size + 2 := by rw [← hw2, World.size_alloc, hw1s]
  have hf12 := hf1.trans hf2
  -- the call
  have hy : Rep (Γ.addρ w1.heap.size) (.func (.yield w1.heap.size) #[] #[]) (.yield s.obs.length) := .yield (by rw [← hs.len]; exact get_append_self _ _)
  have hargs : RepL (Rep (Γ.addρ w1.heap.size)) (vf ++ #[Value.func (.yield w1.heap.size) #[] #[]] ++ vc).toList (first ++ [.yield s.obs.length] ++ cap) := by
    simp only [Array.toList_append]
    exact ((hf12.repL h1).append (.cons hy .nil)).append (hf12.repL h2)
  obtain ⟨hcf, hcalls⟩ := SimD.sim h _ w2 _ hs2 hargs
  generalize hvs : vf ++ #[Value.func (.yield w1.heap.size) #[] #[]] ++ vc = vs at hcf hcalls
  -- into the call
  have hmk : Marks w0.heap.size (Γ.addρ w1.heap.size) w2 (markOf w.heap.size :: a.defers) := by
    obtain ⟨rs, e1, e2, e3⟩ := hm.fwd hf12
    have hold : ∀ r ∈ rs, r < w.heap.size := by
      obtain ⟨rs', g1, g2, g3⟩ := hm
      have : rs' = rs := by
        have := g1.symm.trans e1
        exact (List.map_inj_right (fun x y h => by simpa [markOf] using h)).1 this
      subst this
      exact fun r hr => (g3 r hr).2.1
    refine ⟨w.heap.size :: rs, by simp [e1], List.nodup_cons.2 ⟨fun hm => by have := hold _ hm; omega, e2⟩, fun r hr => ?_⟩
    rcases List.mem_cons.1 hr with rfl | hr
    · refine ⟨hn, by omega, ?_, ?_⟩
      · intro hmem
        rcases List.mem_append.1 hmem with hmem | hmem
        · simp only [Cx.addρ] at hmem
          rcases List.mem_append.1 hmem with hmem | hmem
          · have := hs.lt _ (List.mem_append.2 (.inl hmem)); omega
          · simp at hmem; omega
        · have := hs.lt _ (List.mem_append.2 (.inr hmem)); omega
      · rw [← hw2, heap_alloc_lt w1 _ (by omega), ← hw1]; exact heap_alloc_self w _
    · exact e3 r hr
  let c : Frame := { fn := b.fn, tmps := a.tmps, todo := .inRangeFunc w1.heap.size :: k, defers := markOf w.heap.size :: a.defers, mode := .run, kind := b.kind, roundOf := none }
  have henter : Go.step T.P (lone (b.atR a (.code (.rangeFunc f params assign body) :: k)) cs w) = .next (lone (Frame.enter T.P g vs .normal) (c :: cs) w2) := by
    refine step_lone_go ?_
    have hev := Frame.eval_atR b a (.code (.rangeFunc f params assign body) :: k)
    have hev2 : (c.eval f) = a.eval f := by cases f <;> rfl
    have hres : (do let d ← resolve c.eval { callee := .value f, args := #[.const (.func (.yield w1.heap.size) #[] #[])], argTypes := #[] } 0; invoke d.target d.args : Sem Next) = callFunc g vs := by
      simp only [resolve, hev2, hv, Deferred.ofValue]
      simp [invoke, Frame.eval, ← hvs]
    simp only [stepG, stepG.exec, Frame.atR, hb, Sem.runT_eq, hrun]
    simp only [GStep.bare_after]
    show (stepG.apply T.P true c cs none (do let d ← resolve c.eval { callee := .value f, args := #[.const (.func (.yield w1.heap.size) #[] #[])], argTypes := #[] } 0; invoke d.target d.args) w2).bare = _
    rw [hres]
    simp [stepG.apply, hcf, c]
  obtain ⟨e, w3, fr, ⟨v, r, d, Γ3, rfl, hQ, h3, h4, h5, h6⟩, hsteps, _, hleave⟩ := hcalls (c :: cs)
  have hback := step_leave_returned (c := c) (cs := cs) hleave
  have hfin : c.finish v = { c with todo := .endRangeFunc w1.heap.size :: k } := rfl
  rw [hfin] at hback
  have hF := hf12.trans h6
  have hmk3 := hmk.fwd h6
  -- the end
  unfold dCode.dEnd at hQ
  split at hQ
  · rename_i st pending ts' params' assign' body' hob
    split at hQ
    · exact hQ.elim
    rename_i hst
    have hρ : Γ3.ρ[s.obs.length]? = some w1.heap.size := h6.ρ _ _ (by rw [← hs.len]; exact get_append_self _ _)
    obtain ⟨ob', hob', horep⟩ := h5.of_ρ hρ
    rw [hob] at hob'; injection hob' with hob'; subst hob'
    obtain ⟨L', hL', hLst, hLp, _⟩ := horep
    have hend : (Instr.endLoop w1.heap.size).run T.P w3 = .ok (jumpOf pending) { w3 with heap := w3.heap.setIfInBounds w1.heap.size (.loop { L' with state := .exhausted }) } := by
      have hnb : (L'.state == LoopState.busy) = false := by
        rw [hLst]; cases st <;> simp_all <;> rfl
      simp only [Instr.endLoop, Instr.getLoop, Sem.run_bind, run_getObj (ob := .loop L') trivial hL', Result.andThen_ok, Sem.run_pure, hnb, Bool.false_eq_true, if_false, run_setObj (ob := .loop L') trivial _ hL', hLp]
    obtain ⟨hs4, hf4⟩ := h5.put (ob := .dead) hρ (only_setObj w3 w1.heap.size (.loop { L' with state := .exhausted })) trivial
    generalize hw4 : ({ w3 with heap := w3.heap.setIfInBounds w1.heap.size (.loop { L' with state := .exhausted }) } : World) = w4 at *
    let a' : Act := { tmps := a.tmps, defers := markOf w.heap.size :: a.defers }
    have hlast : Go.step T.P (lone { c with todo := .endRangeFunc w1.heap.size :: k } cs w3) = .next (lone (b.atR a' (((jumpOf pending).map Item.code).toList ++ k)) cs w4) := by
      refine step_lone_go ?_
      simp only [stepG, stepG.exec, c, Sem.runT_eq, hend, GStep.bare_after]
      simp [Frame.atR, hb, a']
    have hall : Steps T.P (lone (b.atR a (.code (.rangeFunc f params assign body) :: k)) cs w) (lone (b.atR a' (((jumpOf pending).map Item.code).toList ++ k)) cs w4) :=
      .head henter (Steps.trans hsteps (.head hback (.one hlast)))
    refine ⟨_, ts, _, a', w4, Γ3, hQ, ?_, (hF.trans hf4).repL ha, hs4, hf0.trans (hF.trans hf4), hmk3.fwd hf4⟩
    cases pending with
    | none => exact hall
    | some x =>
      cases x with
      | normal => exact hall
      | exit id => exact ⟨k, hall, rfl⟩
      | goto l => exact ⟨k, hall, rfl⟩
      | ret => exact ⟨k, hall, trivial⟩
  · exact hQ.elim

/-! ### code -/

theorem code_sim {md : Md} {Γ0 : Cx} {w0 : World} {b : Frame} : ∀ (c : Code) (ts : List D) (s : St) (K : Xt → List D → St → Prop) (Γ : Cx) (w : World) (a : Act) (k : List Item) (cs : List Frame),
    Base md Γ0 w0 Γ w → Sat Γ w s → RepA Γ a ts → Marks w0.heap.size Γ w a.defers → (b.roundOf = none ∨ noRF c = true) → dCode T (SimD T) md c ts s K →
    Goes T.P b cs k (lone (b.atR a (.code c :: k)) cs w) Γ0 w0 K
  | .skip, ts, s, K, Γ, w, a, k, cs, hf, hs, ha, hm, hr, h => .done (.one stepR_skip) hs ha hf.fwd hm h
  | .label l, ts, s, K, Γ, w, a, k, cs, hf, hs, ha, hm, hr, h => .done (.one stepR_label) hs ha hf.fwd hm h
  | .exit id, ts, s, K, Γ, w, a, k, cs, hf, hs, ha, hm, hr, h => .here (x := .exit id) (by simp) rfl hs ha hf.fwd hm h
  | .goto l, ts, s, K, Γ, w, a, k, cs, hf, hs, ha, hm, hr, h => .here (x := .goto l) (by simp) rfl hs ha hf.fwd hm h
  | .ret, ts, s, K, Γ, w, a, k, cs, hf, hs, ha, hm, hr, h => .here (x := .ret) (by simp) rfl hs ha hf.fwd hm h
  | .refuse _, ts, s, K, Γ, w, a, k, cs, hf, hs, ha, hm, hr, h => by exact h.elim
  | .region id ops draw, ts, s, K, Γ, w, a, k, cs, hf, hs, ha, hm, hr, h => by
    simp only [dCode] at h
    cases draw with
    | false =>
      simp only [Bool.false_eq_true, if_false] at h
      obtain ⟨ts', s', a', w', Γ', g1, g2, g3, g4, g5, g6⟩ := list_sim (b := b) (k := k) (cs := cs) ops.toList (List.range ops.size) ts s Γ w a (by
        apply List.ext_getElem?
        intro i
        by_cases hi : i < ops.size
        · simp [hi]
        · simp [hi]) hs ha h
      exact ⟨.normal, ts', s', a', w', Γ', g1, .head stepR_region g2, g3, g4, hf.fwd.trans g5, g6 ▸ hm.fwd g5⟩
    | true =>
      simp only [if_true] at h
      split at h
      · rename_i hok
        obtain ⟨os, h1, h2⟩ := draw_sim hok h (w.tape w.drawn (.order b.fn id))
        obtain ⟨hs1, hf1⟩ := hs.drew
        obtain ⟨ts', s', a', w', Γ', g1, g2, g3, g4, g5, g6⟩ := list_sim (b := b) (k := k) (cs := cs) os _ ts s Γ w.drew a h1 hs1 ha h2
        exact ⟨.normal, ts', s', a', w', Γ', g1, .head stepR_region_draw g2, g3, g4, hf.fwd.trans (hf1.trans g5), g6 ▸ hm.fwd (hf1.trans g5)⟩
      · cases h
  | .seq x y, ts, s, K, Γ, w, a, k, cs, hf, hs, ha, hm, hr, h => by
    simp only [dCode] at h
    have hrx : b.roundOf = none ∨ noRF x = true := hr.imp (fun h => h) (fun h => by simp only [noRF, Bool.and_eq_true] at h; exact h.1)
    have hry : b.roundOf = none ∨ noRF y = true := hr.imp (fun h => h) (fun h => by simp only [noRF, Bool.and_eq_true] at h; exact h.2)
    refine .of_steps (.one stepR_seq) ?_
    obtain ⟨e, ts1, s1, a1, w1, Γ1, hq, harr, h1, h2, h3, h4⟩ := code_sim x ts s _ Γ w a (.code y :: k) cs hf hs ha hm hrx h
    by_cases hx : e = .normal
    · subst hx
      exact .of_steps harr (code_sim y ts1 s1 K Γ1 w1 a1 k cs ⟨hf.n, hf.m, h3⟩ h2 h1 h4 hry hq)
    · refine ⟨e, ts1, s1, a1, w1, Γ1, ?_, harr.pass hx (fun _ => rfl) (fun _ => rfl), h1, h2, h3, h4⟩
      cases e <;> first | exact (hx rfl).elim | exact hq
  | .cond c x y, ts, s, K, Γ, w, a, k, cs, hf, hs, ha, hm, hr, h => by
    simp only [dCode] at h
    split at h
    · rename_i t ht
      have hc := ev_rep ha c
      rw [ht] at hc
      have hc := hc.pv_inv.bool_inv
      refine .of_steps (.one (stepR_cond hc)) ?_
      cases t with
      | true => simp only [if_true] at h ⊢; exact code_sim x ts s K Γ w a k cs hf hs ha hm (hr.imp (fun h => h) (fun h => by simp only [noRF, Bool.and_eq_true] at h; exact h.1)) h
      | false => simp only [Bool.false_eq_true, if_false] at h ⊢; exact code_sim y ts s K Γ w a k cs hf hs ha hm (hr.imp (fun h => h) (fun h => by simp only [noRF, Bool.and_eq_true] at h; exact h.2)) h
    · cases h
  | .block id c, ts, s, K, Γ, w, a, k, cs, hf, hs, ha, hm, hr, h => by
    simp only [dCode] at h
    refine .of_steps (.one stepR_block) ?_
    obtain ⟨e, ts1, s1, a1, w1, Γ1, hq, harr, h1, h2, h3, h4⟩ := code_sim c ts s _ Γ w a (.inBlock id :: k) cs hf hs ha hm (hr.imp (fun h => h) (fun h => by simpa only [noRF] using h)) h
    cases e with
    | normal => exact ⟨.normal, ts1, s1, a1, w1, Γ1, hq, Steps.trans harr (.one stepR_inBlock), h1, h2, h3, h4⟩
    | exit id' =>
      obtain ⟨k1, g1, g2⟩ := harr
      by_cases hid : id' = id
      · subst hid
        simp only [if_true] at hq
        have g2 : exitTo id' k1 = some k := by rw [show exitTo id' k1 = exitTo id' (.inBlock id' :: k) from g2]; simp [exitTo]
        exact ⟨.normal, ts1, s1, a1, w1, Γ1, hq, Steps.trans g1 (.one (stepR_exit g2)), h1, h2, h3, h4⟩
      · simp only [hid, if_false] at hq
        have hne : (id == id') = false := by simp; exact fun h => hid h.symm
        exact ⟨.exit id', ts1, s1, a1, w1, Γ1, hq, ⟨k1, g1, by show exitTo id' k1 = exitTo id' k; rw [show exitTo id' k1 = exitTo id' (.inBlock id :: k) from g2]; simp [exitTo, hne]⟩, h1, h2, h3, h4⟩
    | goto l => exact ⟨.goto l, ts1, s1, a1, w1, Γ1, hq, (by obtain ⟨k1, g1, g2⟩ := harr; exact ⟨k1, g1, g2⟩), h1, h2, h3, h4⟩
    | ret => exact ⟨.ret, ts1, s1, a1, w1, Γ1, hq, harr, h1, h2, h3, h4⟩
  | .loop c, ts, s, K, Γ, w, a, k, cs, hf, hs, ha, hm, hr, h => by
    simp only [dCode] at h
    exact .of_steps (.one stepR_loop) (SimD.sim h Γ0 w0 Γ w a b k cs hf hs ha hm (hr.imp (fun h => h) (fun h => by simpa only [noRF] using h)))
  | .scope c, ts, s, K, Γ, w, a, k, cs, hf, hs, ha, hm, hr, h => by
    simp only [dCode] at h
    exact .of_steps (.one stepR_scope) (SimD.sim h Γ0 w0 Γ w a b k cs hf hs ha hm (hr.imp (fun h => h) (fun h => by simp only [noRF] at h; exact ⟨h, h⟩)))
  | .rangeFunc f params assign body, ts, s, K, Γ, w, a, k, cs, hf, hs, ha, hm, hr, h => by
    have hb : b.roundOf = none := by
      rcases hr with h | h
      · exact h
      · simp [noRF] at h
    simp only [dCode] at h
    have hfv := ev_rep ha f
    split at h
    · rename_i g hg
      rw [hg] at hfv
      have hv : a.eval f = .func (.func g) #[] #[] := by
        have := hfv.pv_inv
        generalize a.eval f = v at this
        cases this; rfl
      exact rangeFunc_sim (first := []) (cap := []) hb hf.fwd hs ha hm hv .nil .nil h
    · rename_i g first cap hg
      rw [hg] at hfv
      obtain ⟨vf, vc, hv, h1, h2⟩ : ∃ vf vc, a.eval f = .func (.func g) vf vc ∧ RepL (Rep Γ) vf.toList first ∧ RepL (Rep Γ) vc.toList cap := by
        generalize a.eval f = v at hfv
        cases hfv with
        | func e1 e2 e3 e4 => exact ⟨_, _, rfl, ⟨by simpa using e1, fun i v d hv hd => e3 i v d (by simpa using hv) hd⟩, ⟨by simpa using e2, fun i v d hv hd => e4 i v d (by simpa using hv) hd⟩⟩
      exact rangeFunc_sim hb hf.fwd hs ha hm hv h1 h2 h
    · cases h

end
end Go.DI

/-
  One step of the evaluator, and what it stands for.
-/
namespace Go.DI
open Go

section
variable {T : Par} {P : Program} {w w' : World} {Γ Γ' : Cx} {s : St} {b : Frame} {a : Act} {k : List Item} {cs : List Frame}

/-! ### a call's results -/

theorem load_sound {t : TypeId} {id off : Nat} {d : D} {s' : St} {v : Value} (hs : Sat Γ w s) (hv : Rep Γ v (.ptr id off)) (he : (if okT P t then exec P (.load id off (P.cellsOf t) (isAggT P t)) s else .fail) = .val d s') :
    ∃ u, (do loadVar t (← asAddr v) : Sem Value).run P w = .ok u w ∧ Rep Γ u d := by
  split at he <;> try (simp at he; done)
  rename_i hok
  simp only [exec] at he
  split at he <;> try (simp at he; done)
  rename_i cs t0 hob
  obtain ⟨b, hb, arr, hg, hr, _⟩ := hs.get_ρ hob
  obtain ⟨b', hv', hb'⟩ := hv.ptr_inv
  rw [hb] at hb'; cases hb'
  have hd : (if isAggT P t then (if off + P.cellsOf t ≤ cs.length then some (mkAgg ((cs.drop off).take (P.cellsOf t))) else none) else cs[off]?) = some d := by
    split at he
    · rename_i hw
      split at he <;> simp at he
      rename_i hle
      rw [if_pos hw, if_pos hle, he.1]
    · rename_i hw
      split at he <;> simp at he
      rename_i d' hd'
      rw [if_neg hw, hd', he.1]
  obtain ⟨u, h1, h2⟩ := run_loadVar (w := w) hok hg hr hd
  exact ⟨u, by simp [hv', asAddr, h1], h2⟩

theorem getD_rep {ts : List D} (ha : RepA Γ a ts) (t : Nat) : Rep Γ (a.tmps.getD t undef) (ts.getD t undefD) := ev_rep ha (.tmp t)

theorem results_list {ts : List D} (hs : Sat Γ w s) (ha : RepA Γ a ts) : ∀ (rvs : List ResultVar) (l : List D), resultsD P s ts rvs = some l →
    ∃ vs, (rvs.mapM (fun | .tmp t => pure (a.tmps.getD t undef) | .cell c t => do loadVar t (← asAddr (a.tmps.getD c undef))) : Sem (List Value)).run P w = .ok vs w ∧ RepL (Rep Γ) vs l
  | [], l, h => by
    simp [resultsD] at h; subst h
    exact ⟨[], rfl, .nil⟩
  | .tmp t :: rvs, l, h => by
    simp only [resultsD] at h
    split at h <;> simp at h
    rename_i l' hl'
    subst h
    obtain ⟨vs, h1, h2⟩ := results_list hs ha rvs l' hl'
    exact ⟨a.tmps.getD t undef :: vs, by simp only [List.mapM_cons, Sem.run_bind, Sem.run_pure, Result.andThen_ok, h1], .cons (getD_rep ha t) h2⟩
  | .cell c t :: rvs, l, h => by
    simp only [resultsD] at h
    split at h <;> try (simp at h; done)
    rename_i id off hc
    split at h <;> try (simp at h; done)
    rename_i d s' hd
    split at h <;> simp at h
    rename_i l' hl'
    subst h
    obtain ⟨vs, h1, h2⟩ := results_list hs ha rvs l' hl'
    have hcr := getD_rep ha c
    rw [hc] at hcr
    obtain ⟨u, g1, g2⟩ := load_sound (P := P) hs hcr hd
    exact ⟨u :: vs, by simp only [List.mapM_cons]; rw [Sem.run_bind, g1]; simp only [Sem.run_bind, Sem.run_pure, Result.andThen_ok, h1], .cons g2 h2⟩

theorem mkRes_rep {vs : List Value} {l : List D} (h : RepL (Rep Γ) vs l) : Rep Γ (if h : vs.toArray.size = 1 then vs.toArray[0] else .tuple vs.toArray) (mkRes l) := by
  match l, vs, h with
  | [], [], h => exact Rep.tup_of h
  | [d], [v], h => exact h.head
  | d :: e :: r, v :: u :: q, h =>
    rw [dif_neg (by simp)]
    exact Rep.tup_of (by simpa using h)
  | [], v :: q, h => have := h.1; simp at this
  | d :: r, [], h => have := h.1; simp at this
  | [d], v :: u :: q, h => have := h.1; simp at this
  | d :: e :: r, [v], h => have := h.1; simp at this

theorem run_results {fn : Func} {ts : List D} {l : List D} (hs : Sat Γ w s) (ha : RepA Γ a ts) (h : resultsD P s ts fn.results.toList = some l) :
    ∃ v, (results fn a.tmps).run P w = .ok v w ∧ Rep Γ v (mkRes l) := by
  obtain ⟨vs, h1, h2⟩ := results_list hs ha fn.results.toList l h
  refine ⟨_, ?_, mkRes_rep h2⟩
  unfold results
  rw [Array.mapM_eq_mapM_toList]
  simp only [Sem.run_map, bind_pure_comp] at h1 ⊢
  first
    | (rw [h1]; rfl)
    | (erw [h1]; rfl)
    | simp [h1]

/-! ### the marks go -/

theorem Sat.other (hs : Sat Γ w s) {r : Nat} {o : Obj} (hr : r ∉ Γ.ρ ++ Γ.β.map (·.1)) (hg : w.heap[r]? = some (.deferred (some []))) (h : Only w w' r) : Sat Γ w' s := by
  refine ⟨hs.len, hs.blen, hs.nodup, fun c hc => Nat.lt_of_lt_of_le (hs.lt c hc) h.size, ?_, hs.apart, ?_, ?_⟩
  · intro b o v hv
    have hc := hs.mem b o v hv
    have hne : b ≠ r := by
      intro e; subst e
      simp [World.cell?, hg] at hc
    rw [cell_of_heap (w := w) (h.blk b (hs.M_lt hv) hne)]; exact hc
  · intro i ob c e1 e2
    have hne : c ≠ r := fun e => hr (e ▸ List.mem_append.2 (.inl (List.mem_of_getElem? e2)))
    exact (hs.obs i ob c e1 e2).keep (h.blk c (hs.ρ_lt e2) hne) (fun _ _ h => h) (fun _ _ _ h => h) (fun _ _ h => h)
  · intro k bf c cap fill e1 e2
    have hne : c ≠ r := fun e => hr (e ▸ List.mem_append.2 (.inr (List.mem_map.2 ⟨_, List.mem_of_getElem? e2, rfl⟩)))
    obtain ⟨a1, a2, a3, arr, fz, t0, a4, a5⟩ := hs.bufs k bf c cap fill e1 e2
    exact ⟨a1, a2, a3, arr, fz, t0, by rw [h.blk c (hs.β_lt e2) hne, a4], a5⟩

theorem unwind_marks {fr : Frame} (hmode : fr.mode = .returning) {n0 : Nat} : ∀ (rs : List Nat) (w : World), Sat Γ w s → rs.Nodup →
    (∀ r ∈ rs, n0 ≤ r ∧ r < w.heap.size ∧ r ∉ Γ.ρ ++ Γ.β.map (·.1) ∧ w.heap[r]? = some (.deferred (some []))) →
    ∃ w', Steps P (lone { fr with defers := rs.map markOf } cs w) (lone { fr with defers := [] } cs w') ∧ Sat Γ w' s ∧ w'.os = w.os ∧ w'.tape = w.tape ∧ w'.output = w.output ∧ w'.heap.size = w.heap.size ∧ ∀ c, c < n0 → w'.heap[c]? = w.heap[c]?
  | [], w, hs, _, _ => ⟨w, .refl _ _, hs, rfl, rfl, rfl, rfl, fun _ _ => rfl⟩
  | r :: rs, w, hs, hn, hr => by
    obtain ⟨h1, h2, h3, h4⟩ := hr r (by simp)
    have hnr := List.nodup_cons.1 hn
    have honly := only_setObj w r (.deferred none)
    have hs1 := hs.other (o := .deferred none) h3 h4 honly
    generalize hw1 : ({ w with heap := w.heap.setIfInBounds r (.deferred none) } : World) = w1 at *
    have hsz : w1.heap.size = w.heap.size := by rw [← hw1]; simp
    have hrun : (Instr.takeDeferred r).run P w = .ok [] w1 := by
      simp only [Instr.takeDeferred, Sem.run_bind, run_getObj (ob := .deferred (some [])) trivial h4, Result.andThen_ok, run_setObj (ob := .deferred (some [])) trivial _ h4, hw1, Sem.run_pure]
    have hstep : Go.step P (lone { fr with defers := (r :: rs).map markOf } cs w) = .next (lone { fr with defers := rs.map markOf } cs w1) := by
      refine step_lone_go ?_
      simp [stepG, hmode, unwind, markOf, Sem.runT_eq, hrun]
    obtain ⟨w2, g1, g2, g3, g4, g5, g6, g7⟩ := unwind_marks hmode rs w1 hs1 hnr.2 (fun r' hr' => by
      obtain ⟨a1, a2, a3, a4⟩ := hr r' (by simp [hr'])
      refine ⟨a1, by omega, a3, ?_⟩
      rw [honly.blk r' a2 (fun e => hnr.1 (e ▸ hr')), a4])
    exact ⟨w2, .head hstep g1, g2, g3.trans honly.os, g4.trans honly.tape, g5.trans honly.output, g6.trans hsz, fun c hc => (g7 c hc).trans (honly.blk c (by omega) (by omega))⟩

theorem Fwd.other (hf : Fwd Γ w Γ' w') {w2 : World} (h1 : w2.os = w'.os) (h2 : w2.tape = w'.tape) (h3 : w2.output = w'.output) (h4 : w2.heap.size = w'.heap.size) (h5 : ∀ c, c < w.heap.size → w2.heap[c]? = w'.heap[c]?) : Fwd Γ w Γ' w2 where
  os := h1.trans hf.os
  tape := h2.trans hf.tape
  output := h3.trans hf.output
  size := by rw [h4]; exact hf.size
  blk := fun b hb hn => (h5 b hb).trans (hf.blk b hb hn)
  M := hf.M
  Mnew := hf.Mnew
  ρ := hf.ρ
  ρnew := hf.ρnew
  β := hf.β
  βnew := hf.βnew

/-! ### a call -/

def NoGor (P : Program) : Prop := ∀ (f : FuncId) (fn : Func), P.funcs[f]? = some fn → (fn.name == "runtime.NumGoroutine") = false

theorem run_callFunc (hng : NoGor P) {f : FuncId} {fn : Func} {body : Code} {vs : Array Value} (hf : P.funcs[f]? = some fn) (hb : fn.body = some body) : (callFunc f vs).run P w = .ok (.enter f vs) w := by
  have := hng f fn hf
  simp [callFunc, hf, hb]
  simpa using this

theorem call_step (hng : NoGor T.P) {det : Bool} {f : FuncId} {args : List D} {Q : Res → Prop} (h : step T (SimD T) (.call det f args s) Q) : Sim T (.call det f args s) Q := by
  simp only [step] at h
  split at h
  · rename_i fn hf
    split at h
    · rename_i body hb
      intro Γ w vs hs hargs
      refine ⟨run_callFunc hng hf hb, fun cs => ?_⟩
      let b := Frame.enter T.P f vs .normal
      let a : Act := { tmps := vs ++ Array.replicate (fn.ntmps - vs.size) undef, defers := [] }
      have hstart : b = b.atR a [.code body] := by simp [b, a, Frame.enter, Frame.atR, hf, hb]
      have hlen : vs.size = args.length := by have := hargs.1; simpa using this
      have ha : RepA Γ a (args ++ List.replicate (fn.ntmps - args.length) undefD) := by
        show RepL (Rep Γ) (vs ++ Array.replicate (fn.ntmps - vs.size) undef).toList _
        rw [Array.toList_append, Array.toList_replicate, hlen]
        refine hargs.append ⟨by simp, fun i v d hv hd => ?_⟩
        rw [List.getElem?_replicate] at hv hd
        split at hv <;> simp at hv
        split at hd <;> simp at hd
        all_goals first | (subst hv; subst hd; exact undef_rep) | contradiction
      obtain ⟨x, ts, s1, a1, w1, Γ1, hq, harr, h1, h2, h3, h4⟩ := code_sim (b := b) body _ s _ Γ w a [] cs ⟨hs.len, hs.blen, .refl _ _⟩ hs ha .nil (.inl rfl) h
      -- the frame returns
      have hret : ∃ todo, Steps T.P (lone (Frame.enter T.P f vs .normal) cs w) (lone { b.atR a1 todo with mode := .returning } cs w1) ∧ leaveD T.P fn ts s1 Q := by
        have hst : lone (Frame.enter T.P f vs .normal) cs w = lone (b.atR a [.code body]) cs w := by rw [← hstart]
        rw [hst]
        cases x with
        | normal => exact ⟨[], Steps.trans harr (.one (stepR_end rfl)), hq⟩
        | ret => obtain ⟨k1, g1, _⟩ := harr; exact ⟨.code .ret :: k1, Steps.trans g1 (.one (stepR_ret rfl)), hq⟩
        | exit id => cases hq
        | goto l => cases hq
      obtain ⟨todo, hsteps, hleave⟩ := hret
      unfold leaveD at hleave
      split at hleave
      · rename_i l hl
        obtain ⟨rs, e1, e2, e3⟩ := h4
        obtain ⟨w2, g1, g2, g3, g4, g5, g6, g7⟩ := unwind_marks (P := T.P) (cs := cs) (fr := { b.atR a1 todo with mode := .returning }) rfl rs w1 h2 e2 e3
        have hfr : ({ b.atR a1 todo with mode := .returning } : Frame) = { ({ b.atR a1 todo with mode := .returning } : Frame) with defers := rs.map markOf } := by
          rw [← e1]; rfl
        rw [← hfr] at g1
        have hF := h3.other g3 g4 g5 g6 g7
        obtain ⟨v, hv, hvr⟩ := run_results (P := T.P) (fn := fn) g2 h1 hl
        refine ⟨.returned v, w2, { ({ b.atR a1 todo with mode := .returning } : Frame) with defers := [] }, ⟨v, _, _, Γ1, rfl, hleave, rfl, hvr, g2, hF⟩, Steps.trans hsteps g1, rfl, rfl, rfl, rfl, fn, hf, hv⟩
      · cases hleave
    · cases h
  · cases h

/-! ### loops and scopes -/

theorem loop_step {md : Md} {body : Code} {ts : List D} {Q : Res → Prop} (h : step T (SimD T) (.loop md body ts s) Q) : Sim T (.loop md body ts s) Q := by
  simp only [step] at h
  intro Γ0 w0 Γ w a b k cs hf hs ha hm hr
  obtain ⟨x, ts1, s1, a1, w1, Γ1, hq, harr, h1, h2, h3, h4⟩ := code_sim (b := b) body ts s _ Γ w a (.inLoop body :: k) cs hf hs ha hm hr h
  by_cases hx : x = .normal
  · subst hx
    exact .of_steps (Steps.trans harr (.one stepR_inLoop)) (SimD.sim hq Γ0 w0 Γ1 w1 a1 b k cs ⟨hf.n, hf.m, h3⟩ h2 h1 h4 hr)
  · refine ⟨x, ts1, s1, a1, w1, Γ1, ?_, harr.pass hx (fun _ => rfl) (fun _ => rfl), h1, h2, h3, h4⟩
    cases x <;> first | exact (hx rfl).elim | exact hq

theorem noRF_find : ∀ (c : Code) (l : Nat) (r : Code), noRF c = true → findLabel c l = some r → noRF r = true
  | .seq a b, l, r, h, hf => by
    simp only [noRF, Bool.and_eq_true] at h
    simp only [findLabel] at hf
    split at hf
    · rename_i r' hr'
      simp at hf; subst hf
      simp only [noRF, Bool.and_eq_true]
      exact ⟨noRF_find a l r' h.1 hr', h.2⟩
    · exact noRF_find b l r h.2 hf
  | .label l', l, r, h, hf => by
    simp only [findLabel] at hf
    split at hf <;> simp at hf
    subst hf; rfl
  | .skip, _, _, _, hf | .region .., _, _, _, hf | .cond .., _, _, _, hf | .block .., _, _, _, hf | .loop .., _, _, _, hf | .rangeFunc .., _, _, _, hf | .exit _, _, _, _, hf
  | .scope _, _, _, _, hf | .goto _, _, _, _, hf | .ret, _, _, _, hf | .refuse _, _, _, _, hf => by simp [findLabel] at hf

theorem scope_step {md : Md} {body rest : Code} {ts : List D} {Q : Res → Prop} (h : step T (SimD T) (.scope md body rest ts s) Q) : Sim T (.scope md body rest ts s) Q := by
  simp only [step] at h
  intro Γ0 w0 Γ w a b k cs hf hs ha hm hr
  obtain ⟨x, ts1, s1, a1, w1, Γ1, hq, harr, h1, h2, h3, h4⟩ := code_sim (b := b) rest ts s _ Γ w a (.inScope body :: k) cs hf hs ha hm (hr.imp (fun h => h) (fun h => h.2)) h
  cases x with
  | normal => exact ⟨.normal, ts1, s1, a1, w1, Γ1, hq, Steps.trans harr (.one stepR_inScope), h1, h2, h3, h4⟩
  | exit id => obtain ⟨k1, g1, g2⟩ := harr; exact ⟨.exit id, ts1, s1, a1, w1, Γ1, hq, ⟨k1, g1, g2⟩, h1, h2, h3, h4⟩
  | ret => obtain ⟨k1, g1, g2⟩ := harr; exact ⟨.ret, ts1, s1, a1, w1, Γ1, hq, ⟨k1, g1, g2⟩, h1, h2, h3, h4⟩
  | goto l =>
    obtain ⟨k1, g1, g2⟩ := harr
    have g2 : gotoIn l k1 = gotoIn l (.inScope body :: k) := g2
    cases hfl : findLabel body l with
    | some r =>
      simp only [hfl] at hq
      simp only [gotoIn, hfl] at g2
      exact .of_steps (Steps.trans g1 (.one (stepR_goto g2))) (SimD.sim hq Γ0 w0 Γ1 w1 a1 b k cs ⟨hf.n, hf.m, h3⟩ h2 h1 h4 (hr.imp (fun h => h) (fun h => ⟨h.1, noRF_find body l r h.1 hfl⟩)))
    | none =>
      simp only [hfl] at hq
      simp only [gotoIn, hfl] at g2
      exact ⟨.goto l, ts1, s1, a1, w1, Γ1, hq, ⟨k1, g1, g2⟩, h1, h2, h3, h4⟩

/-! ### a round -/

theorem foldl_put (ps : List Nat) : ∀ (vs : List Value) (ds : List D) (tmps : Array Value) (ts : List D), RepL (Rep Γ) vs ds → RepL (Rep Γ) tmps.toList ts →
    RepL (Rep Γ) ((ps.zip vs).foldl (fun tmps (x : Nat × Value) => tmps.setIfInBounds x.1 x.2) tmps).toList ((ps.zip ds).foldl (fun ts p => ts.set p.1 p.2) ts) := by
  induction ps with
  | nil => intro vs ds tmps ts _ h; simpa using h
  | cons p ps ih =>
    intro vs ds tmps ts hv ht
    cases ds with
    | nil => rw [hv.nil_right]; simpa using ht
    | cons d ds =>
      obtain ⟨v, vs, rfl, h1, h2⟩ := hv.cons_right
      simp only [List.zip_cons_cons, List.foldl_cons]
      exact ih vs ds _ _ h2 (by rw [Array.toList_setIfInBounds]; exact RepL.set ht h1 p)

theorem round_step {det : Bool} {l : Nat} {args : List D} {Q : Res → Prop} (h : step T (SimD T) (.round det l args s) Q) : Sim T (.round det l args s) Q := by
  simp only [step] at h
  split at h
  · rename_i pending ts params assign body hob
    split at h
    · rename_i hc
      obtain ⟨hc1, hc2, hc3⟩ := hc
      intro Γ w vs bl hs hargs hl
      obtain ⟨ob, hob', horep⟩ := hs.of_ρ hl
      rw [hob] at hob'; injection hob' with hob'; subst hob'
      obtain ⟨L, hL, hLst, hLp, hLt, hLpar, hLas, hLb⟩ := horep
      have hvl : vs.size = L.params.size := by
        have h1 : vs.toList.length = args.length := hargs.1
        have h2 : L.params.toList.length = params.length := by rw [hLpar]
        simp at h1 h2; omega
      have hyield : (Instr.yield bl vs).run T.P w = .ok (.round bl L.fn ((L.params.zip vs).foldl (fun tmps (t, a) => tmps.setIfInBounds t a) L.tmps) L.assign L.body) w := by
        simp [Instr.yield, Instr.getLoop, run_getObj (P := T.P) (ob := .loop L) trivial hL, hvl]
      refine ⟨_, _, _, _, hyield, fun c cs => ?_⟩
      generalize htm : (L.params.zip vs).foldl (fun tmps (t, a) => tmps.setIfInBounds t a) L.tmps = tmps
      rw [hLas, hLb]
      let b := Frame.round bl L.fn tmps assign body .normal
      let a : Act := { tmps, defers := [] }
      have hstart : Frame.round bl L.fn tmps assign body .normal = b.atR a [.code assign, .beginRound, .code body] := by simp [b, a, Frame.round, Frame.atR]
      have ha : RepA Γ a ((params.zip args).foldl (fun ts p => ts.set p.1 p.2) ts) := by
        show RepL (Rep Γ) tmps.toList _
        rw [← htm, ← Array.foldl_toList, Array.toList_zip, hLpar]
        exact foldl_put params vs.toList args L.tmps ts hargs hLt
      obtain ⟨x, ts1, s1, a1, w1, Γ1, hq, harr, h1, h2, h3, h4⟩ := code_sim (b := b) assign _ s _ Γ w a [.beginRound, .code body] (c :: cs) ⟨hs.len, hs.blen, .refl _ _⟩ hs ha .nil (.inr hc2) h
      cases x with
      | normal =>
        simp only at hq
        split at hq
        · rename_i pending' ts' params' assign' body' hob1
          have hl1 := h3.ρ _ _ hl
          obtain ⟨ob1, hob1', horep1⟩ := h2.of_ρ hl1
          rw [hob1] at hob1'; injection hob1' with hob1'; subst hob1'
          obtain ⟨L1, hL1, hL1st, hL1p, hL1t, hL1par, hL1as, hL1b⟩ := horep1
          have hbegin : (Instr.beginRound bl).run T.P w1 = .ok () { w1 with heap := w1.heap.setIfInBounds bl (.loop { L1 with state := .busy }) } := by
            simp [Instr.beginRound, Instr.getLoop, run_getObj (P := T.P) (ob := .loop L1) trivial hL1, run_setObj (P := T.P) (ob := .loop L1) trivial _ hL1, hL1st]
          obtain ⟨hs2, hf2⟩ := h2.put (ob := .loop .busy pending' ts' params' assign' body') hl1 (only_setObj w1 bl (.loop { L1 with state := .busy }))
            ⟨{ L1 with state := .busy }, heap_setObj (h2.ρ_lt hl1), rfl, hL1p, hL1t, hL1par, hL1as, hL1b⟩
          generalize hw2 : ({ w1 with heap := w1.heap.setIfInBounds bl (.loop { L1 with state := .busy }) } : World) = w2 at *
          obtain ⟨x, ts2, s3, a3, w3, Γ3, hq, harr3, g1, g2, g3, g4⟩ := code_sim (b := b) body ts1 _ _ Γ1 w2 a1 [] (c :: cs) ⟨hs.len, hs.blen, h3.trans hf2⟩ hs2 (hf2.repL h1) (h4.fwd hf2) (.inr hc3) hq
          split at hq
          · rename_i st3 pending3 ts3 params3 assign3 body3 hob3
            have hl3 := g3.ρ _ _ hl
            obtain ⟨ob3, hob3', horep3⟩ := g2.of_ρ hl3
            rw [hob3] at hob3'; injection hob3' with hob3'; subst hob3'
            obtain ⟨L3, hL3, hL3st, hL3p, hL3t, hL3par, hL3as, hL3b⟩ := horep3
            have hend : ∀ jump : Option Code, (Instr.endRound bl jump).run T.P w3 = .ok (.bool jump.isNone) { w3 with heap := w3.heap.setIfInBounds bl (.loop { L3 with state := if jump.isNone then .ready else .done, pending := jump }) } := by
              intro jump
              simp [Instr.endRound, Instr.getLoop, run_getObj (P := T.P) (ob := .loop L3) trivial hL3, run_setObj (P := T.P) (ob := .loop L3) trivial _ hL3]
            have hput : ∀ (jump : Option Code) (st : LoopState) (pd : Option Xt), (if jump.isNone then LoopState.ready else .done) = st → jump = jumpOf pd →
                Sat Γ3 { w3 with heap := w3.heap.setIfInBounds bl (.loop { L3 with state := if jump.isNone then .ready else .done, pending := jump }) } (s3.set l (.loop st pd ts3 params3 assign3 body3)) ∧
                Fwd Γ3 w3 Γ3 { w3 with heap := w3.heap.setIfInBounds bl (.loop { L3 with state := if jump.isNone then .ready else .done, pending := jump }) } := by
              intro jump st pd e1 e2
              exact g2.put hl3 (only_setObj w3 bl _) ⟨_, heap_setObj (g2.ρ_lt hl3), e1, e2, hL3t, hL3par, hL3as, hL3b⟩
            have hgo : Steps T.P (lone (Frame.round bl L.fn tmps assign body .normal) (c :: cs) w) (lone (b.atR a1 [.code body]) (c :: cs) w2) := by
              rw [hstart]
              exact Steps.trans harr (.one (stepR_beginRound rfl hbegin))
            have hF := g3
            cases x with
            | normal =>
              obtain ⟨p1, p2⟩ := hput none .ready none rfl rfl
              exact ⟨.bool true, _, _, Γ3, _, hq, Steps.trans hgo (Steps.trans harr3 (.one (stepR_round_end rfl rfl (hend none)))), rfl, .pv .bool, p1, hF.trans p2⟩
            | ret =>
              obtain ⟨p1, p2⟩ := hput (some .ret) .done (some .ret) rfl rfl
              obtain ⟨k1, q1, q2⟩ := harr3
              exact ⟨.bool false, _, _, Γ3, _, hq, Steps.trans hgo (Steps.trans q1 (.one (stepR_round_ret rfl rfl (hend _)))), rfl, .pv .bool, p1, hF.trans p2⟩
            | exit id =>
              obtain ⟨p1, p2⟩ := hput (some (.exit id)) .done (some (.exit id)) rfl rfl
              obtain ⟨k1, q1, q2⟩ := harr3
              exact ⟨.bool false, _, _, Γ3, _, hq, Steps.trans hgo (Steps.trans q1 (.one (stepR_round_exit rfl rfl q2 (hend _)))), rfl, .pv .bool, p1, hF.trans p2⟩
            | goto t =>
              obtain ⟨p1, p2⟩ := hput (some (.goto t)) .done (some (.goto t)) rfl rfl
              obtain ⟨k1, q1, q2⟩ := harr3
              exact ⟨.bool false, _, _, Γ3, _, hq, Steps.trans hgo (Steps.trans q1 (.one (stepR_round_goto rfl rfl q2 (hend _)))), rfl, .pv .bool, p1, hF.trans p2⟩
          · exact hq.elim
        · exact hq.elim
      | _ => exact hq.elim
    · exact h.elim
  · exact h.elim

theorem step_sim (hng : NoGor T.P) {c : Cl} {Q : Res → Prop} (h : step T (SimD T) c Q) : Sim T c Q := by
  cases c with
  | call => exact call_step hng h
  | round => exact round_step h
  | loop => exact loop_step h
  | scope => exact scope_step h

end
end Go.DI

/-
  What the evaluator comes to, in any number of steps; and that the machine does so.
-/
namespace Go.DI
open Go

/-! ### forgetting -/

def WkD (d d' : D) : Prop := d' = d ∨ d' = .junk ∨ ∃ x, d.toDt = some x ∧ d' = .pv x

inductive WkO : Ob → Ob → Prop
  | same (o : Ob) : WkO o o
  | dead (o : Ob) : WkO o .dead
  | cells {cs cs' : List D} {t : TypeId} (hl : cs'.length = cs.length) (h : ∀ (i : Nat) (c c' : D), cs[i]? = some c → cs'[i]? = some c' → c' = c ∨ c' = .junk) : WkO (.cells cs t) (.cells cs' t)

structure Wk (n m : Nat) (ts : List D) (s : St) (ts' : List D) (s' : St) : Prop where
  len : s'.obs.length = n
  le : n ≤ s.obs.length
  bufs : s'.bufs = s.bufs.take m
  obs : ∀ (i : Nat) (ob' : Ob), s'.obs[i]? = some ob' → ∃ ob, s.obs[i]? = some ob ∧ WkO ob ob'
  under : s'.obs.all (Ob.under n m) = true
  tlen : ts'.length = ts.length
  tmp : ∀ (i : Nat) (d d' : D), ts[i]? = some d → ts'[i]? = some d' → WkD d d'
  tunder : ts'.all (D.under n m) = true

def WeakClosed (R : RT) : Prop :=
  (∀ (md : Md) (body : Code) (n m : Nat) (ts : List D) (s : St) (ts' : List D) (s' : St) (Q : Res → Prop), md.n ≤ n → md.m ≤ m → Wk n m ts s ts' s' → R (.loop md body ts' s') Q → R (.loop md body ts s) Q) ∧
  (∀ (det : Bool) (f : FuncId) (s : St) (args args' : List D) (Q : Res → Prop), args'.length = args.length → (∀ (i : Nat) (d d' : D), args[i]? = some d → args'[i]? = some d' → WkD d d') → R (.call det f args' s) Q → R (.call det f args s) Q)

/-- in some number of steps -/
def Ev (T : Par) (c : Cl) (Q : Res → Prop) : Prop := ∀ R : RT, MonoR R → (∀ c Q, step T R c Q → R c Q) → WeakClosed R → R c Q

section
variable {T : Par}

theorem Ev.monoR : MonoR (Ev T) := fun c Q Q' hq h R h1 h2 h3 => h1 c Q Q' hq (h R h1 h2 h3)

theorem Ev.mono {c : Cl} {Q Q' : Res → Prop} (h : Ev T c Q) (hq : ∀ r, Q r → Q' r) : Ev T c Q' := Ev.monoR c Q Q' hq h

theorem Ev.step {c : Cl} {Q : Res → Prop} (h : DI.step T (Ev T) c Q) : Ev T c Q := fun R h1 h2 h3 =>
  h2 c Q (step_mono Ev.monoR (fun c Q h => h R h1 h2 h3) (fun _ h => h) h)

theorem Ev.loop_weak {md : Md} {body : Code} {n m : Nat} {ts : List D} {s : St} {ts' : List D} {s' : St} {Q : Res → Prop} (hn : md.n ≤ n) (hm : md.m ≤ m) (hw : Wk n m ts s ts' s') (h : Ev T (.loop md body ts' s') Q) : Ev T (.loop md body ts s) Q :=
  fun R h1 h2 h3 => h3.1 md body n m ts s ts' s' Q hn hm hw (h R h1 h2 h3)

theorem Ev.call_weak {det : Bool} {f : FuncId} {s : St} {args args' : List D} {Q : Res → Prop} (hl : args'.length = args.length) (hw : ∀ (i : Nat) (d d' : D), args[i]? = some d → args'[i]? = some d' → WkD d d')
    (h : Ev T (.call det f args' s) Q) : Ev T (.call det f args s) Q :=
  fun R h1 h2 h3 => h3.2 det f s args args' Q hl hw (h R h1 h2 h3)

/-- steps above what is known -/
def runB (T : Par) (R : RT) : Nat → RT
  | 0 => R
  | n + 1 => step T (runB T R n)

theorem runB_mono {R : RT} (h : MonoR R) : ∀ n, MonoR (runB T R n)
  | 0 => h
  | n + 1 => fun c Q Q' hq hh => step_mono (runB_mono h n) (.refl _) hq hh

theorem runB_ev : ∀ (n : Nat) (c : Cl) (Q : Res → Prop), runB T (Ev T) n c Q → Ev T c Q
  | 0, c, Q, h => h
  | n + 1, c, Q, h => Ev.step (step_mono (runB_mono Ev.monoR n) (fun c Q h => runB_ev n c Q h) (fun _ h => h) h)

theorem run_mono : ∀ n, MonoR (run T n)
  | 0 => fun c Q Q' _ hh => hh.elim'
  | n + 1 => fun c Q Q' hq hh => step_mono (run_mono n) (.refl _) hq hh

theorem run_ev : ∀ (n : Nat) (c : Cl) (Q : Res → Prop), run T n c Q → Ev T c Q
  | 0, c, Q, h => h.elim'
  | n + 1, c, Q, h => Ev.step (step_mono (run_mono n) (fun c Q h => run_ev n c Q h) (fun _ h => h) h)

/-! ### soundness -/

variable {Γ : Cx} {w : World} {s : St}

theorem wkD_rep {v : Value} {d d' : D} (h : Rep Γ v d) (hw : WkD d d') : Rep Γ v d' := by
  rcases hw with rfl | rfl | ⟨x, hx, rfl⟩
  · exact h
  · exact .junk
  · exact .pv (toDt_rep h hx)

theorem wk_sat {n m : Nat} {ts : List D} {ts' : List D} {s' : St} (hw : Wk n m ts s ts' s') (hs : Sat Γ w s) : Sat (Γ.cut n m) w s' := by
  -- first as many objects, weaker
  let s1 : St := ⟨s'.obs ++ s.obs.drop n, s.bufs⟩
  have hlen : s1.obs.length = s.obs.length := by simp [s1, hw.len]; have := hw.le; omega
  have hs1 : Sat Γ w s1 := by
    refine ⟨by rw [hlen]; exact hs.len, hs.blen, hs.nodup, hs.lt, hs.mem, hs.apart, ?_, hs.bufs⟩
    intro i ob' b h1 h2
    by_cases hi : i < n
    · simp only [s1] at h1
      rw [List.getElem?_append_left (by rw [hw.len]; exact hi)] at h1
      obtain ⟨ob, ho, hwk⟩ := hw.obs i ob' h1
      have horep := hs.obs i ob b ho h2
      cases hwk with
      | same => exact horep
      | dead => trivial
      | cells hl hc =>
        rename_i cs cs' t
        obtain ⟨arr, g1, g2, g3⟩ := horep
        refine ⟨arr, g1, ⟨by rw [g2.1, hl], fun j v c' hv hc' => ?_⟩, fun c' hc' => ?_⟩
        · have hj : j < cs.length := by rw [← hl]; exact (List.getElem?_eq_some_iff.1 hc').1
          rcases hc j _ c' (List.getElem?_eq_getElem hj) hc' with rfl | rfl
          · exact g2.2 j v _ hv (List.getElem?_eq_getElem hj)
          · exact .junk
        · obtain ⟨j, hj⟩ := List.mem_iff_getElem?.1 hc'
          have hjl : j < cs.length := by rw [← hl]; exact (List.getElem?_eq_some_iff.1 hj).1
          rcases hc j _ c' (List.getElem?_eq_getElem hjl) hj with rfl | rfl
          · exact g3 _ (List.getElem_mem hjl)
          · exact .inr rfl
    · simp only [s1] at h1
      rw [List.getElem?_append_right (by rw [hw.len]; omega), hw.len, List.getElem?_drop] at h1
      have : n + (i - n) = i := by omega
      rw [this] at h1
      exact hs.obs i ob' b h1 h2
  have htake : s1.obs.take n = s'.obs := by
    show (s'.obs ++ s.obs.drop n).take n = s'.obs
    rw [List.take_append_of_le_length (by rw [hw.len]; exact Nat.le_refl _), List.take_of_length_le (by rw [hw.len]; exact Nat.le_refl _)]
  have := hs1.cut (n := n) (m := m) (by rw [htake]; exact hw.under)
  rw [htake] at this
  have he : (⟨s'.obs, s1.bufs.take m⟩ : St) = s' := by
    cases s'; simp only [s1]; rw [← hw.bufs]
  rwa [he] at this

theorem wk_rep {n m : Nat} {ts : List D} {ts' : List D} {s' : St} {a : Act} (hw : Wk n m ts s ts' s') (ha : RepA Γ a ts) : RepA (Γ.cut n m) a ts' := by
  refine repL_cut (Γ := Γ) ⟨by rw [ha.1, hw.tlen], fun i v d' hv hd' => ?_⟩ hw.tunder
  have hi : i < ts.length := by rw [← hw.tlen]; exact (List.getElem?_eq_some_iff.1 hd').1
  exact wkD_rep (ha.2 i v _ hv (List.getElem?_eq_getElem hi)) (hw.tmp i _ d' (List.getElem?_eq_getElem hi) hd')

theorem Marks.cut {n0 n m : Nat} {ds : List Deferred} (h : Marks n0 Γ w ds) : Marks n0 (Γ.cut n m) w ds := by
  obtain ⟨rs, h1, h2, h3⟩ := h
  refine ⟨rs, h1, h2, fun r hr => ?_⟩
  obtain ⟨a1, a2, a3, a4⟩ := h3 r hr
  refine ⟨a1, a2, fun hm => a3 ?_, a4⟩
  rcases List.mem_append.1 hm with h | h
  · exact List.mem_append.2 (.inl (List.mem_of_mem_take h))
  · obtain ⟨x, hx, rfl⟩ := List.mem_map.1 h
    exact List.mem_append.2 (.inr (List.mem_map.2 ⟨x, List.mem_of_mem_take hx, rfl⟩))

theorem SimD.weak : WeakClosed (SimD T) := by
  have lift : ∀ {c c' : Cl} {Q : Res → Prop}, c.det = c'.det → (∀ Q, Sim T c' Q → Sim T c Q) → SimD T c' Q → SimD T c Q := by
    intro c c' Q hd h hs
    unfold SimD at hs ⊢
    rw [hd]
    split at hs
    · rename_i hc
      rw [if_pos hc]
      obtain ⟨r, h1, h2⟩ := hs
      exact ⟨r, h1, h _ h2⟩
    · rename_i hc
      rw [if_neg hc]; exact h _ hs
  refine ⟨fun md body n m ts s ts' s' Q hn hm hw => lift rfl fun Q h => ?_, fun det f s args args' Q hl hw => lift rfl fun Q h => ?_⟩
  · intro Γ0 w0 Γ w a b k cs hf hs ha hmk hr
    exact h Γ0 w0 (Γ.cut n m) w a b k cs ⟨hf.n, hf.m, hf.fwd.cut (by rw [hf.n]; exact hn) (by rw [hf.m]; exact hm)⟩ (wk_sat hw hs) (wk_rep hw ha) hmk.cut hr
  · intro Γ w vs hs hargs
    refine h Γ w vs hs ⟨by rw [hargs.1, hl], fun i v d' hv hd' => ?_⟩
    have hi : i < args.length := by rw [← hl]; exact (List.getElem?_eq_some_iff.1 hd').1
    exact wkD_rep (hargs.2 i v _ hv (List.getElem?_eq_getElem hi)) (hw i _ d' (List.getElem?_eq_getElem hi) hd')

theorem step_simD (hng : NoGor T.P) {c : Cl} {Q : Res → Prop} (h : DI.step T (SimD T) c Q) : SimD T c Q := by
  unfold SimD
  split
  · rename_i hc
    obtain ⟨r, h1, h2⟩ := step_det SimD.monoR SimD.detR hc h
    exact ⟨r, h1, step_sim hng h2⟩
  · exact step_sim hng h

/-- what the evaluator comes to, the machine comes to -/
theorem Ev.sim (hng : NoGor T.P) {c : Cl} {Q : Res → Prop} (h : Ev T c Q) : Sim T c Q :=
  SimD.sim (h (SimD T) SimD.monoR (fun _ _ h => step_simD hng h) SimD.weak)

/-- a call from outside: the arguments data in memory -/
theorem Ev.calls (hng : NoGor T.P) {det : Bool} {f : FuncId} {xs : List Dt} {Q : Res → Prop} (h : Ev T (.call det f (xs.map .pv) .nil) Q) {M : Mem} {w : World} {vs : Array Value}
    (hM : ∀ b o v, M b o = some v → w.cell? ⟨b, o, none⟩ = some v) (hvs : RepL (RepT M) vs.toList xs) :
    Calls T.P f vs w fun e w' => ∃ v r d Γ', e = .returned v ∧ Q r ∧ r.ts = [d] ∧ Rep Γ' v d ∧ Sat Γ' w' r.s ∧ Fwd (Cx.bare M) w Γ' w' :=
  (h.sim hng (Cx.bare M) w vs (bare_sat hM) (hvs.map_right fun _ _ h => Rep.pv (Γ := Cx.bare M) h)).2

end
end Go.DI

