/-
  Calls, lists of operations, regions in any order: the evaluator over data is sound.
-/
import Derived.AtR
import Derived.Orders
import Derived.Test.YtmpepleddmidfaaDoorDIB
set_option linter.unusedVariables false
/-
  What the machine does, step by step, beside the evaluator: the pieces.
-/
namespace Go.DI
open Go

/-! ### marks of deferred calls of ranges over functions -/

def markOf (r : Nat) : Deferred := { target := .collected r, args := #[] }

structure Marks (n0 : Nat) (Γ : Cx) (w : World) (ds : List Deferred) : Prop where
  ex : ∃ rs : List Nat, ds = rs.map markOf ∧ rs.Nodup ∧ ∀ r ∈ rs, n0 ≤ r ∧ r < w.heap.size ∧ r ∉ Γ.ρ ++ Γ.β.map (·.1) ∧ w.heap[r]? = some (.deferred (some []))

theorem Marks.nil {n0 : Nat} {Γ : Cx} {w : World} : Marks n0 Γ w [] := ⟨[], rfl, by simp, by simp⟩

theorem Fwd.not_mem {Γ Γ' : Cx} {w w' : World} (h : Fwd Γ w Γ' w') {r : Nat} (hl : r < w.heap.size) (hn : r ∉ Γ.ρ ++ Γ.β.map (·.1)) : r ∉ Γ'.ρ ++ Γ'.β.map (·.1) := by
  intro hm
  rcases List.mem_append.1 hm with hm | hm
  · rcases h.ρnew r hm with hm | hm
    · exact hn (List.mem_append.2 (.inl hm))
    · omega
  · rcases h.βnew r hm with hm | hm
    · exact hn (List.mem_append.2 (.inr hm))
    · omega

theorem Marks.fwd {n0 : Nat} {Γ Γ' : Cx} {w w' : World} {ds : List Deferred} (h : Marks n0 Γ w ds) (f : Fwd Γ w Γ' w') : Marks n0 Γ' w' ds := by
  obtain ⟨rs, h1, h2, h3⟩ := h
  refine ⟨rs, h1, h2, fun r hr => ?_⟩
  obtain ⟨a1, a2, a3, a4⟩ := h3 r hr
  exact ⟨a1, Nat.lt_of_lt_of_le a2 f.size, f.not_mem a2 a3, by rw [f.blk r a2 a3, a4]⟩

/-! ### where a run of code arrives -/

def Xt.jump : Xt → Code
  | .normal => .skip
  | .exit id => .exit id
  | .goto l => .goto l
  | .ret => .ret

def Same (x : Xt) (k1 k : List Item) : Prop :=
  match x with
  | .normal => k1 = k
  | .exit id => exitTo id k1 = exitTo id k
  | .goto l => gotoIn l k1 = gotoIn l k
  | .ret => True

def Arr (P : Program) (m : Machine) (b : Frame) (k : List Item) (cs : List Frame) (x : Xt) (a : Act) (w : World) : Prop :=
  match x with
  | .normal => Steps P m (lone (b.atR a k) cs w)
  | x => ∃ k1, Steps P m (lone (b.atR a (.code x.jump :: k1)) cs w) ∧ Same x k1 k

theorem Arr.of_steps {P : Program} {m m1 : Machine} {b : Frame} {k : List Item} {cs : List Frame} {x : Xt} {a : Act} {w : World} (h : Steps P m m1) (h' : Arr P m1 b k cs x a w) : Arr P m b k cs x a w := by
  cases x with
  | normal => exact Steps.trans h h'
  | _ => obtain ⟨k1, h1, h2⟩ := h'; exact ⟨k1, h.trans h1, h2⟩

/-- where the frame began, and where it stands -/
structure Base (md : Md) (Γ0 : Cx) (w0 : World) (Γ : Cx) (w : World) : Prop where
  n : Γ0.ρ.length = md.n
  m : Γ0.β.length = md.m
  fwd : Fwd Γ0 w0 Γ w

theorem Base.to {md : Md} {Γ0 Γ Γ' : Cx} {w0 w w' : World} (h : Base md Γ0 w0 Γ w) (f : Fwd Γ w Γ' w') : Base md Γ0 w0 Γ' w' := ⟨h.n, h.m, h.fwd.trans f⟩

/-- where the run of code goes: to some end of which Q holds -/
def Goes (P : Program) (b : Frame) (cs : List Frame) (k : List Item) (m : Machine) (Γ0 : Cx) (w0 : World) (Q : Xt → List D → St → Prop) : Prop :=
  ∃ x ts s a w' Γ', Q x ts s ∧ Arr P m b k cs x a w' ∧ RepA Γ' a ts ∧ Sat Γ' w' s ∧ Fwd Γ0 w0 Γ' w' ∧ Marks w0.heap.size Γ' w' a.defers

theorem Goes.mono {P : Program} {b : Frame} {cs : List Frame} {k : List Item} {m : Machine} {Γ0 : Cx} {w0 : World} {Q Q' : Xt → List D → St → Prop} (h : Goes P b cs k m Γ0 w0 Q) (hq : ∀ x ts s, Q x ts s → Q' x ts s) :
    Goes P b cs k m Γ0 w0 Q' := by
  obtain ⟨x, ts, s, a, w', Γ', q, r⟩ := h
  exact ⟨x, ts, s, a, w', Γ', hq _ _ _ q, r⟩

theorem Goes.of_steps {P : Program} {b : Frame} {cs : List Frame} {k : List Item} {m m1 : Machine} {Γ0 : Cx} {w0 : World} {Q : Xt → List D → St → Prop} (h : Steps P m m1) (h' : Goes P b cs k m1 Γ0 w0 Q) :
    Goes P b cs k m Γ0 w0 Q := by
  obtain ⟨x, ts, s, a, w', Γ', q, r, rest⟩ := h'
  exact ⟨x, ts, s, a, w', Γ', q, r.of_steps h, rest⟩

/-! ### what a call, a round, a loop, a scope do beside the evaluator -/

def Sim (T : Par) : Cl → (Res → Prop) → Prop
  | .call _ f args s, Q => ∀ Γ w (vs : Array Value), Sat Γ w s → RepL (Rep Γ) vs.toList args →
      (callFunc f vs).run T.P w = .ok (.enter f vs) w ∧
      Calls T.P f vs w fun e w' => ∃ v r d Γ', e = .returned v ∧ Q r ∧ r.ts = [d] ∧ Rep Γ' v d ∧ Sat Γ' w' r.s ∧ Fwd Γ w Γ' w'
  | .round _ l args s, Q => ∀ Γ w (vs : Array Value) bl, Sat Γ w s → RepL (Rep Γ) vs.toList args → Γ.ρ[l]? = some bl →
      ∃ f tmps assign body, (Instr.yield bl vs).run T.P w = .ok (.round bl f tmps assign body) w ∧
        ∀ c cs, ∃ v r d Γ' w', Q r ∧ Steps T.P (lone (Frame.round bl f tmps assign body .normal) (c :: cs) w) (lone (c.finish v) cs w') ∧
          r.ts = [d] ∧ Rep Γ' v d ∧ Sat Γ' w' r.s ∧ Fwd Γ w Γ' w'
  | .loop md body ts s, Q => ∀ Γ0 w0 Γ w a b k cs, Base md Γ0 w0 Γ w → Sat Γ w s → RepA Γ a ts → Marks w0.heap.size Γ w a.defers → (b.roundOf = none ∨ noRF body = true) →
      Goes T.P b cs k (lone (b.atR a (.code body :: .inLoop body :: k)) cs w) Γ0 w0 fun x ts s => Q ⟨x, ts, s⟩
  | .scope md body rest ts s, Q => ∀ Γ0 w0 Γ w a b k cs, Base md Γ0 w0 Γ w → Sat Γ w s → RepA Γ a ts → Marks w0.heap.size Γ w a.defers → (b.roundOf = none ∨ (noRF body = true ∧ noRF rest = true)) →
      Goes T.P b cs k (lone (b.atR a (.code rest :: .inScope body :: k)) cs w) Γ0 w0 fun x ts s => Q ⟨x, ts, s⟩

theorem Sim.mono {T : Par} {c : Cl} {Q Q' : Res → Prop} (h : Sim T c Q) (hq : ∀ r, Q r → Q' r) : Sim T c Q' := by
  cases c with
  | call det f args s =>
    intro Γ w vs hs hr
    obtain ⟨h1, h2⟩ := h Γ w vs hs hr
    refine ⟨h1, Calls.mono h2 ?_⟩
    rintro e w' ⟨v, r, d, Γ', a1, a2, a3⟩
    exact ⟨v, r, d, Γ', a1, hq _ a2, a3⟩
  | round det l args s =>
    intro Γ w vs bl hs hr hl
    obtain ⟨f, tmps, assign, body, h1, h2⟩ := h Γ w vs bl hs hr hl
    refine ⟨f, tmps, assign, body, h1, fun c cs => ?_⟩
    obtain ⟨v, r, d, Γ', w', a1, a2⟩ := h2 c cs
    exact ⟨v, r, d, Γ', w', hq _ a1, a2⟩
  | loop md body ts s => exact fun Γ0 w0 Γ w a b k cs h1 h2 h3 h4 h5 => (h Γ0 w0 Γ w a b k cs h1 h2 h3 h4 h5).mono fun _ _ _ => hq _
  | scope md body rest ts s => exact fun Γ0 w0 Γ w a b k cs h1 h2 h3 h4 h5 => (h Γ0 w0 Γ w a b k cs h1 h2 h3 h4 h5).mono fun _ _ _ => hq _

/-- where the outcome must be one, it is one -/
def SimD (T : Par) : RT := fun c Q => if c.det then ∃ r, Q r ∧ Sim T c (· = r) else Sim T c Q

theorem SimD.sim {T : Par} {c : Cl} {Q : Res → Prop} (h : SimD T c Q) : Sim T c Q := by
  unfold SimD at h
  split at h
  · obtain ⟨r, hq, h⟩ := h
    exact h.mono fun r' e => e ▸ hq
  · exact h

theorem SimD.mono {T : Par} {c : Cl} {Q Q' : Res → Prop} (h : SimD T c Q) (hq : ∀ r, Q r → Q' r) : SimD T c Q' := by
  unfold SimD at h ⊢
  split at h
  · rename_i hd
    obtain ⟨r, h1, h2⟩ := h
    rw [if_pos hd]; exact ⟨r, hq r h1, h2⟩
  · rename_i hd
    rw [if_neg hd]; exact h.mono hq

/-! ### the evaluator's pieces -/

section
variable {P : Program} {T : Par} {w w' : World} {Γ Γ' : Cx} {s : St}

theorem wants_sound {ops : Array Oper} {o : Oper} {ts : List D} {K : Bool → Prop} {a : Act} (ha : RepA Γ a ts) (h : wants ops o ts K) : K (Region.wanted o (yielded ops a.tmps)) := by
  unfold wants at h
  unfold Region.wanted
  cases hg : o.guard with
  | none => simpa [hg] using h
  | some jw =>
    obtain ⟨j, want⟩ := jw
    simp only [hg] at h
    cases ht : (ops[j]?).bind (·.dst) with
    | none => simp only [ht] at h; cases h
    | some t =>
      simp only [ht] at h
      have hy : yielded ops a.tmps j = match a.tmps[t]? with | some (.bool b) => some b | _ => none := by
        unfold yielded; rw [ht]; rfl
      show K (yielded ops a.tmps j == some want)
      rw [hy]
      have hlen := ha.1
      by_cases hlt : t < ts.length
      · have hd : ts.getD t undefD = ts[t] := by simp [List.getD, hlt]
        rw [hd] at h
        obtain ⟨v, hv, hr⟩ := ha.get (List.getElem?_eq_getElem hlt)
        have hv' : a.tmps[t]? = some v := by simpa using hv
        rw [hv']
        split at h
        · rename_i b hb
          rw [hb] at hr
          rw [hr.pv_inv.bool_inv]
          cases b <;> cases want <;> simpa using h
        · rename_i hb
          rw [hb] at hr
          obtain ⟨vs, rfl, _⟩ := hr.pv_inv.tup_inv
          simpa using h
        · cases h
      · have hn : a.tmps[t]? = none := by
          apply Array.getElem?_eq_none
          have h1 : a.tmps.toList.length = a.tmps.size := by simp
          have h2 : a.tmps.toList.length = ts.length := hlen
          have h3 : ts.length ≤ t := Nat.le_of_not_lt hlt
          show a.tmps.size ≤ t
          rw [← h1, h2]; exact h3
        have hd : ts.getD t undefD = undefD := by simp [List.getD, List.getElem?_eq_none (Nat.le_of_not_lt hlt)]
        rw [hn]
        rw [hd] at h
        simpa [undefD] using h

theorem put_rep {a : Act} {ts : List D} {dst : Option Tmp} {v : Value} {d : D} (ha : RepA Γ a ts) (hr : Rep Γ v d) : RepA Γ (a.put dst v) (putD ts dst d) := by
  cases dst with
  | none => exact ha
  | some t =>
    show RepL (Rep Γ) (a.tmps.setIfInBounds t v).toList (ts.set t d)
    rw [Array.toList_setIfInBounds]
    exact RepL.set ha hr t

theorem ofOpt_ne {x : Option D} {f : FuncId} {l : Nat} {args : List D} : Mop.ofOpt x ≠ .call f args ∧ Mop.ofOpt x ≠ .round l args := by
  cases x <;> simp [Mop.ofOpt]

/-- only a call of a function value calls -/
theorem dec_callee {o : Oper} {ts : List D} {m : Mop} (h : dec P o ts = m) (hm : (∃ f args, m = .call f args) ∨ ∃ l args, m = .round l args) :
    ∃ c x, o.op = .call c ∧ c.callee = .value x ∧ decCall P ts c = m := by
  have ho : ∀ x : Option D, Mop.ofOpt x ≠ m := by
    rintro x rfl
    rcases hm with ⟨f, args, h⟩ | ⟨l, args, h⟩
    · exact (ofOpt_ne (l := 0)).1 h
    · exact (ofOpt_ne (f := 0)).2 h
  have hb : ∀ c b args, decBuiltin P c b args ≠ m := by
    rintro c b args rfl
    rcases hm with ⟨f, args', h⟩ | ⟨l, args', h⟩
    all_goals
      unfold decBuiltin at h
      repeat' split at h
      all_goals first
        | exact (ofOpt_ne (l := 0)).1 h
        | exact (ofOpt_ne (f := 0)).2 h
        | (unfold decLen at h; repeat' split at h) <;> simp at h
        | (unfold decApp at h; repeat' split at h) <;> first | (simp at h; done) | (unfold appMop at h; repeat' split at h) <;> simp at h
        | (unfold decDel at h; repeat' split at h) <;> simp at h
        | simp at h
  cases hop : o.op with
  | call c =>
    simp only [dec, hop] at h
    cases hc : c.callee with
    | value x => exact ⟨c, x, rfl, hc, h⟩
    | invoke r n => simp only [decCall, hc] at h; subst h; rcases hm with ⟨f, args, h⟩ | ⟨l, args, h⟩ <;> cases h
    | builtin b => simp only [decCall, hc] at h; exact (hb _ _ _ h).elim
  | _ =>
    exfalso
    simp only [dec, hop] at h
    first
      | exact ho _ h
      | (subst h; rcases hm with ⟨f, args, h⟩ | ⟨l, args, h⟩ <;> first | cases h | (repeat' split at h) <;> first | cases h | exact (ofOpt_ne (l := 0)).1 h | exact (ofOpt_ne (f := 0)).2 h)

theorem dec_call {a : Act} {o : Oper} {ts : List D} {f : FuncId} {args : List D} (ha : RepA Γ a ts) (h : dec P o ts = .call f args) :
    (∀ c, o.op ≠ .defer c) ∧ ∃ vs : Array Value, execOp a.eval o = callFunc f vs ∧ RepL (Rep Γ) vs.toList args := by
  obtain ⟨c, x, ho, hc, hd⟩ := dec_callee h (.inl ⟨f, args, rfl⟩)
  refine ⟨by simp [ho], ?_⟩
  have hx := ev_rep ha x
  have hargs := repL_map ha c.args
  unfold decCall at hd
  simp only [hc] at hd
  split at hd
  · rename_i g hg
    injection hd with e1 e2
    subst e1; subst e2
    rw [hg] at hx
    have hv : a.eval x = .func (.func g) #[] #[] := by
      have := hx.pv_inv
      generalize a.eval x = v at this
      cases this; rfl
    refine ⟨c.args.map a.eval, ?_, hargs⟩
    simp only [execOp, ho, resolve, hc, hv, Deferred.ofValue, invoke]
    simp
  · rename_i g first cap hg
    injection hd with e1 e2
    subst e1; subst e2
    rw [hg] at hx
    obtain ⟨vf, vc, hv, h1, h2⟩ : ∃ vf vc, a.eval x = .func (.func g) vf vc ∧ RepL (Rep Γ) vf.toList first ∧ RepL (Rep Γ) vc.toList cap := by
      generalize a.eval x = v at hx
      cases hx with
      | func e1 e2 e3 e4 => exact ⟨_, _, rfl, ⟨by simpa using e1, fun i v d hv hd => e3 i v d (by simpa using hv) hd⟩, ⟨by simpa using e2, fun i v d hv hd => e4 i v d (by simpa using hv) hd⟩⟩
    refine ⟨vf ++ c.args.map a.eval ++ vc, ?_, by simpa using (h1.append hargs).append h2⟩
    simp only [execOp, ho, resolve, hc, hv, Deferred.ofValue]
    simp [invoke]
  · cases hd
  · cases hd

theorem dec_round {a : Act} {o : Oper} {ts : List D} {l : Nat} {args : List D} (ha : RepA Γ a ts) (h : dec P o ts = .round l args) :
    (∀ c, o.op ≠ .defer c) ∧ ∃ (vs : Array Value) (bl : Nat), execOp a.eval o = Instr.yield bl vs ∧ RepL (Rep Γ) vs.toList args ∧ Γ.ρ[l]? = some bl := by
  obtain ⟨c, x, ho, hc, hd⟩ := dec_callee h (.inr ⟨l, args, rfl⟩)
  refine ⟨by simp [ho], ?_⟩
  have hx := ev_rep ha x
  have hargs := repL_map ha c.args
  unfold decCall at hd
  simp only [hc] at hd
  split at hd
  · cases hd
  · cases hd
  · rename_i g hg
    injection hd with e1 e2
    subst e1; subst e2
    rw [hg] at hx
    obtain ⟨bl, hv, hb⟩ : ∃ bl, a.eval x = .func (.yield bl) #[] #[] ∧ Γ.ρ[g]? = some bl := by
      generalize a.eval x = v at hx
      cases hx; exact ⟨_, rfl, by assumption⟩
    refine ⟨c.args.map a.eval, bl, ?_, hargs, hb⟩
    simp only [execOp, ho, resolve, hc, hv, Deferred.ofValue]
    simp [invoke]
  · cases hd

end
end Go.DI

/-
  What is known changes at a call: a call of data alone, a call that only looks, and what is forgotten after a call.
-/
namespace Go.DI
open Go

section
variable {P : Program} {T : Par} {w w' : World} {Γ Γ' : Cx} {s : St}

/-! ### forgetting -/

def Cx.cut (Γ : Cx) (n m : Nat) : Cx := { Γ with ρ := Γ.ρ.take n, β := Γ.β.take m }

theorem take_get {α : Type} {l : List α} {n i : Nat} {a : α} (h : l[i]? = some a) (hi : i < n) : (l.take n)[i]? = some a := by
  rw [List.getElem?_take_of_lt hi]; exact h

theorem cell_cut {n m : Nat} {v : Value} {d : D} (h : Rep Γ v d) (hu : D.under.cellBelow n m d = true) : Rep (Γ.cut n m) v d := by
  cases h with
  | pv h => exact .pv h
  | ptr h => simp [D.under.cellBelow] at hu; exact .ptr (take_get h hu)
  | cptr val he hm hr => exact .cptr val he hm hr
  | own h hb hf hv => simp [D.under.cellBelow] at hu; exact .own h (take_get hb hu) hf hv
  | exa h => exact .exa h
  | msl hsp hc h => simp [D.under.cellBelow] at hu; exact .msl hsp hc (fun hn => ⟨take_get (h hn).1 hu, (h hn).2⟩)
  | agg hs h => simp [D.under.cellBelow] at hu
  | tup hs h => simp [D.under.cellBelow] at hu
  | func h1 h2 h3 h4 =>
    rename_i f vs us fs cs
    cases fs with
    | cons _ _ => simp [D.under.cellBelow] at hu
    | nil =>
      cases cs with
      | cons _ _ => simp [D.under.cellBelow] at hu
      | nil => exact .func h1 h2 (fun i v c _ hc => by simp at hc) (fun i v c _ hc => by simp at hc)
  | yield h => simp [D.under.cellBelow] at hu; exact .yield (take_get h hu)
  | map h => simp [D.under.cellBelow] at hu; exact .map (take_get h hu)
  | iter h => simp [D.under.cellBelow] at hu; exact .iter (take_get h hu)
  | iface h => simp [D.under.cellBelow] at hu
  | junk => exact .junk

theorem agg_cut {n m : Nat} {v : Value} {d : D} (h : Rep Γ v d) (hu : D.under.aggBelow n m d = true) : Rep (Γ.cut n m) v d := by
  cases d with
  | agg cs =>
    simp only [D.under.aggBelow, List.all_eq_true] at hu
    cases h with
    | agg hs h => exact .agg hs fun i v c hv hc => cell_cut (h i v c hv hc) (hu c (List.mem_of_getElem? hc))
  | _ => exact cell_cut h hu

theorem rep_cut {n m : Nat} {v : Value} {d : D} (h : Rep Γ v d) (hu : d.under n m = true) : Rep (Γ.cut n m) v d := by
  cases d with
  | agg cs =>
    simp only [D.under, List.all_eq_true] at hu
    cases h with
    | agg hs h => exact .agg hs fun i v c hv hc => cell_cut (h i v c hv hc) (hu c (List.mem_of_getElem? hc))
  | tup cs =>
    simp only [D.under, List.all_eq_true] at hu
    cases h with
    | tup hs h => exact .tup hs fun i v c hv hc => agg_cut (h i v c hv hc) (hu c (List.mem_of_getElem? hc))
  | iface t d =>
    simp only [D.under] at hu
    cases h with
    | iface h => exact .iface (cell_cut h hu)
  | func f fs cs =>
    simp only [D.under, Bool.and_eq_true, List.all_eq_true] at hu
    cases h with
    | func h1 h2 h3 h4 => exact .func h1 h2 (fun i v c hv hc => cell_cut (h3 i v c hv hc) (hu.1 c (List.mem_of_getElem? hc))) (fun i v c hv hc => cell_cut (h4 i v c hv hc) (hu.2 c (List.mem_of_getElem? hc)))
  | pv x => exact cell_cut h rfl
  | cptr a b c d => exact cell_cut h rfl
  | exa a b c => exact cell_cut h rfl
  | junk => exact cell_cut h rfl
  | ptr a b => exact cell_cut h hu
  | msl a b c d => exact cell_cut h hu
  | own a b c => exact cell_cut h hu
  | yield a => exact cell_cut h hu
  | map a => exact cell_cut h hu
  | iter a => exact cell_cut h hu

theorem repL_cut {n m : Nat} {vs : List Value} {ds : List D} (h : RepL (Rep Γ) vs ds) (hu : ds.all (D.under n m) = true) : RepL (Rep (Γ.cut n m)) vs ds :=
  ⟨h.1, fun i v d hv hd => rep_cut (h.2 i v d hv hd) (List.all_eq_true.1 hu d (List.mem_of_getElem? hd))⟩

theorem orep_cut {n m b : Nat} {ob : Ob} (h : ORep Γ w b ob) (hu : ob.under n m = true) : ORep (Γ.cut n m) w b ob := by
  cases ob with
  | dead => trivial
  | cells cs t =>
    obtain ⟨arr, h1, h2, h3⟩ := h
    exact ⟨arr, h1, repL_cut h2 hu, h3⟩
  | map es clock =>
    obtain ⟨arr, h1, h2, h3⟩ := h
    simp only [Ob.under, List.all_eq_true] at hu
    exact ⟨arr, h1, h2, fun i e d he hd => ⟨(h3 i e d he hd).1, rep_cut (h3 i e d he hd).2.1 (hu d (List.mem_of_getElem? hd)), (h3 i e d he hd).2.2⟩⟩
  | mapIter mi since seen stepped =>
    obtain ⟨m', h1, h2⟩ := h
    refine ⟨m', h1, ?_⟩
    cases mi with
    | none => exact h2
    | some id => obtain ⟨c, h3, h4⟩ := h2; simp [Ob.under] at hu; exact ⟨c, take_get h3 hu, h4⟩
  | strIter str pos => exact h
  | loop st pending ts params assign body =>
    obtain ⟨L, h1, h2, h3, h4, h5⟩ := h
    exact ⟨L, h1, h2, h3, repL_cut h4 hu, h5⟩

theorem take_sub {α : Type} {l : List α} {n i : Nat} {a : α} (h : (l.take n)[i]? = some a) : l[i]? = some a ∧ i < n := by
  rw [List.getElem?_take] at h
  split at h
  · exact ⟨h, by assumption⟩
  · cases h

theorem Sat.cut (hs : Sat Γ w s) {n m : Nat} (hu : (s.obs.take n).all (Ob.under n m) = true) : Sat (Γ.cut n m) w ⟨s.obs.take n, s.bufs.take m⟩ := by
  have hsub : ∀ b, b ∈ (Γ.cut n m).ρ ++ (Γ.cut n m).β.map (·.1) → b ∈ Γ.ρ ++ Γ.β.map (·.1) := by
    intro b hb
    rcases List.mem_append.1 hb with h | h
    · exact List.mem_append.2 (.inl (List.mem_of_mem_take h))
    · obtain ⟨x, hx, rfl⟩ := List.mem_map.1 h
      exact List.mem_append.2 (.inr (List.mem_map.2 ⟨x, List.mem_of_mem_take hx, rfl⟩))
  refine ⟨by simp [Cx.cut, hs.len], by simp [Cx.cut, hs.blen], ?_, fun b hb => hs.lt b (hsub b hb), hs.mem, fun b hb => hs.apart b (List.mem_of_mem_take hb), ?_, ?_⟩
  · refine List.Nodup.sublist ?_ hs.nodup
    simp only [Cx.cut, List.map_take]
    exact (List.take_sublist _ _).append (List.take_sublist _ _)
  · intro i ob b h1 h2
    obtain ⟨h1', hi⟩ := take_sub h1
    obtain ⟨h2', _⟩ := take_sub h2
    exact orep_cut (hs.obs i ob b h1' h2') (List.all_eq_true.1 hu ob (List.mem_of_getElem? h1))
  · intro k bf b cap fill h1 h2
    obtain ⟨h1', hi⟩ := take_sub h1
    obtain ⟨h2', _⟩ := take_sub h2
    exact hs.bufs k bf b cap fill h1' h2'

theorem Fwd.cut {n m : Nat} (hf : Fwd Γ w Γ' w') (hn : Γ.ρ.length ≤ n) (hm : Γ.β.length ≤ m) : Fwd Γ w (Γ'.cut n m) w' where
  os := hf.os
  tape := hf.tape
  output := hf.output
  size := hf.size
  blk := hf.blk
  M := hf.M
  Mnew := hf.Mnew
  ρ := fun i b hb => take_get (hf.ρ i b hb) (Nat.lt_of_lt_of_le (List.getElem?_eq_some_iff.1 hb).1 hn)
  ρnew := fun b hb => hf.ρnew b (List.mem_of_mem_take hb)
  β := fun k b c f hb => by
    obtain ⟨b', c', f', h1, h2⟩ := hf.β k b c f hb
    exact ⟨b', c', f', take_get h1 (Nat.lt_of_lt_of_le (List.getElem?_eq_some_iff.1 hb).1 hm), h2⟩
  βnew := fun b hb => by
    obtain ⟨x, hx, rfl⟩ := List.mem_map.1 hb
    exact hf.βnew _ (List.mem_map.2 ⟨x, List.mem_of_mem_take hx, rfl⟩)

theorem tidy_sound {v : Value} {d : D} {s' : St} (hs : Sat Γ w s) (hr : Rep Γ' v d) (hs' : Sat Γ' w' s') (hf : Fwd Γ w Γ' w') :
    ∃ Γ'', Rep Γ'' v d ∧ Sat Γ'' w' (tidy s.obs.length s.bufs.length d s') ∧ Fwd Γ w Γ'' w' := by
  unfold tidy
  split
  · rename_i h
    simp only [Bool.and_eq_true] at h
    exact ⟨Γ'.cut s.obs.length s.bufs.length, rep_cut hr h.1, hs'.cut h.2, hf.cut (by rw [hs.len]; exact Nat.le_refl _) (by rw [hs.blen]; exact Nat.le_refl _)⟩
  · exact ⟨Γ', hr, hs', hf⟩

/-! ### more is constant, nothing else turns -/

theorem Sat.extend (hs : Sat Γ w s) {M2 : Mem} (h1 : w'.os = w.os) (h2 : w'.tape = w.tape) (h3 : w'.output = w.output) (h4 : w.heap.size ≤ w'.heap.size)
    (h5 : ∀ c, c < w.heap.size → w'.heap[c]? = w.heap[c]?) (hM : ∀ b o v, Γ.M b o = some v → M2 b o = some v) (hnew : ∀ b o, M2 b o ≠ Γ.M b o → w.heap.size ≤ b)
    (hmem : ∀ b o v, M2 b o = some v → w'.cell? ⟨b, o, none⟩ = some v) : Sat { Γ with M := M2 } w' s ∧ Fwd Γ w { Γ with M := M2 } w' := by
  have hold : ∀ b o, b < w.heap.size → M2 b o = Γ.M b o := fun b o hb => by
    by_cases e : M2 b o = Γ.M b o
    · exact e
    · have := hnew b o e; omega
  constructor
  · refine ⟨hs.len, hs.blen, hs.nodup, fun c hc => Nat.lt_of_lt_of_le (hs.lt c hc) h4, hmem, ?_, ?_, ?_⟩
    · intro b hb o
      show M2 b o = none
      rw [hold b o (hs.lt b (List.mem_append.2 (.inl hb)))]; exact hs.apart b hb o
    · intro i ob c e1 e2
      exact (hs.obs i ob c e1 e2).keep (h5 c (hs.ρ_lt e2)) (fun v d h => Rep.mono (Γ := Γ) (Γ' := { Γ with M := M2 }) hM (fun _ _ h => h) (fun _ b c f h => ⟨b, c, f, h, Nat.le_refl _, fun _ => ⟨rfl, rfl⟩⟩) h) hM (fun _ _ h => h)
    · intro k bf c cap fill e1 e2
      obtain ⟨a1, a2, a3, arr, fz, t0, a4, a5, a6, a7⟩ := hs.bufs k bf c cap fill e1 e2
      refine ⟨a1, a2, a3, arr, fz, t0, by rw [h5 c (hs.β_lt e2), a4], a5, a6, fun o ho => ?_⟩
      show M2 c o = none
      rw [hold c o (hs.β_lt e2)]; exact a7 o ho
  · exact ⟨h1, h2, h3, h4, fun c hc _ => h5 c hc, hM, fun b o h => .inl (hnew b o h), fun _ _ h => h, fun _ h => .inl h, fun _ b c f h => ⟨b, c, f, h, Nat.le_refl _, fun _ => ⟨rfl, rfl⟩⟩, fun _ h => .inl h⟩

/-! ### a call of data alone -/

def Cx.bare (M : Mem) : Cx := ⟨M, [], []⟩

theorem bare_sat {M : Mem} (h : ∀ b o v, M b o = some v → w.cell? ⟨b, o, none⟩ = some v) : Sat (Cx.bare M) w .nil :=
  ⟨rfl, rfl, by simp [Cx.bare], by simp [Cx.bare], h, by simp [Cx.bare], by simp [Cx.bare], by simp [Cx.bare]⟩

theorem iso_args {vs : List Value} {args : List D} {xs : List Dt} (h : RepL (Rep Γ) vs args) (hx : omap D.aggDt args = some xs) : RepL (Rep (Cx.bare Γ.M)) vs (xs.map .pv) :=
  (RepL.omap (R' := RepT Γ.M) (f := D.aggDt) (fun _ _ _ h hx => aggDt_rep h hx) h hx).map_right fun _ _ h => Rep.pv (Γ := Cx.bare Γ.M) h

/-- what the callee's own variables hold, too -/
def ownM (Γ1 : Cx) (w1 : World) : Mem := fun b o => if b ∈ Γ1.ρ then w1.cell? ⟨b, o, none⟩ else Γ1.M b o

theorem ownM_ext {Γ1 : Cx} {w1 : World} {s1 : St} (h : Sat Γ1 w1 s1) : ∀ b o v, Γ1.M b o = some v → ownM Γ1 w1 b o = some v := by
  intro b o v hv
  unfold ownM
  split
  · rename_i hb; rw [h.apart b hb o] at hv; cases hv
  · exact hv

theorem ownM_mem {Γ1 : Cx} {w1 : World} {s1 : St} (h : Sat Γ1 w1 s1) : ∀ b o v, ownM Γ1 w1 b o = some v → w1.cell? ⟨b, o, none⟩ = some v := by
  intro b o v hv
  unfold ownM at hv
  split at hv
  · exact hv
  · exact h.mem b o v hv

theorem own_frame {w1 : World} {s1 : St} {Γ1 : Cx} (hs : Sat Γ w s) (h1 : Sat Γ1 w1 s1) (hf : Fwd (Cx.bare Γ.M) w Γ1 w1) :
    Sat { Γ with M := ownM Γ1 w1 } w1 s ∧ Fwd Γ w { Γ with M := ownM Γ1 w1 } w1 := by
  refine hs.extend hf.os hf.tape hf.output hf.size (fun c hc => hf.blk c hc (by simp [Cx.bare])) (fun b o v hv => ownM_ext h1 b o v (hf.M b o v hv)) ?_ (ownM_mem h1)
  intro b o hne
  unfold ownM at hne
  split at hne
  · rename_i hb
    rcases hf.ρnew b hb with h | h
    · simp [Cx.bare] at h
    · exact h
  · rcases hf.Mnew b o hne with h | h
    · exact h
    · simp [Cx.bare] at h

theorem cellDtS_rep {Γ1 : Cx} {w1 : World} {s1 : St} {v : Value} {d : D} {x : Dt} (h1 : Sat Γ1 w1 s1) (hr : Rep Γ1 v d) (hx : cellDtS s1 d = some x) : RepT (ownM Γ1 w1) v x := by
  cases d with
  | msl id off n sz =>
    simp only [cellDtS] at hx
    split at hx <;> try (simp at hx; done)
    rename_i hp
    cases hl : memList s1 id off n sz with
    | none => simp [hl] at hx
    | some ys =>
      simp [hl] at hx; subst hx
      unfold memList at hl
      split at hl <;> try (simp at hl; done)
      rename_i cs t0 hob
      split at hl <;> try (simp at hl; done)
      rename_i hle
      obtain ⟨b, hb, arr, hg, hrr, hone⟩ := h1.get_ρ hob
      obtain ⟨c1, c2, c3⟩ := chunks_ok hp hl (by simp; omega) (hrr.drop off) (fun c hc => hone c (List.mem_of_mem_drop hc))
      have c3 : RepL (RepT (ownM Γ1 w1)) ((arr.toList.drop off).take (n * sz)) (flat ys) := c3.mono fun _ _ h => h.mono (ownM_ext h1)
      cases hr with
      | msl hsp hc hpos =>
        rename_i a cap
        obtain ⟨ab, ao, asp⟩ := a
        simp only at hsp hpos
        subst hsp
        refine RepT.of_cells c1.symm hc c2 (fun i hi => ?_) c3
        rw [c1] at hi
        have hn : 0 < n := by
          rcases Nat.eq_zero_or_pos n with h | h
          · subst h; omega
          · exact h
        obtain ⟨p1, p2, _⟩ := hpos hn
        rw [hb] at p1; injection p1 with p1
        subst p1; subst p2
        unfold ownM
        rw [if_pos (List.mem_of_getElem? hb), List.getElem?_take_of_lt hi, List.getElem?_drop]
        simp [World.cell?, hg]
  | _ => exact (cellDt_rep hr hx).mono (ownM_ext h1)

theorem aggDtS_rep {Γ1 : Cx} {w1 : World} {s1 : St} {v : Value} {d : D} {x : Dt} (h1 : Sat Γ1 w1 s1) (hr : Rep Γ1 v d) (hx : aggDtS s1 d = some x) : RepT (ownM Γ1 w1) v x := by
  cases d with
  | agg cs =>
    simp only [aggDtS] at hx
    cases hl : omap (cellDtS s1) cs with
    | none => simp [hl] at hx
    | some l =>
      simp [hl] at hx; subst hx
      obtain ⟨vs, rfl, hv⟩ := hr.agg_inv
      exact RepT.agg_of (RepL.omap (R := Rep Γ1) (f := cellDtS s1) (fun _ _ _ h hx => cellDtS_rep h1 h hx) hv hl)
  | _ => exact cellDtS_rep h1 hr hx

theorem toDtS_rep {Γ1 : Cx} {w1 : World} {s1 : St} {v : Value} {d : D} {x : Dt} (h1 : Sat Γ1 w1 s1) (hr : Rep Γ1 v d) (hx : toDtS s1 d = some x) : RepT (ownM Γ1 w1) v x := by
  cases d with
  | tup cs =>
    simp only [toDtS] at hx
    cases hl : omap (aggDtS s1) cs with
    | none => simp [hl] at hx
    | some l =>
      simp [hl] at hx; subst hx
      obtain ⟨vs, rfl, hv⟩ := hr.tup_inv
      exact RepT.tup_of (RepL.omap (R := Rep Γ1) (f := aggDtS s1) (fun _ _ _ h hx => aggDtS_rep h1 h hx) hv hl)
  | _ => exact aggDtS_rep h1 hr hx

/-- what the caller has of a call of data alone -/
theorem iso_sound {f : FuncId} {o : Oper} {w1 : World} {s1 : St} {Γ1 : Cx} {v : Value} {d : D} {K : D → St → Prop} (hs : Sat Γ w s) (h1 : Sat Γ1 w1 s1) (hr : Rep Γ1 v d) (hf : Fwd (Cx.bare Γ.M) w Γ1 w1)
    (h : isoRes T f o s1 d s K) : ∃ d' s' Γ', K d' s' ∧ Rep Γ' v d' ∧ Sat Γ' w1 s' ∧ Fwd Γ w Γ' w1 := by
  unfold isoRes at h
  split at h
  · -- the slice is handed over
    rename_i id sz es hh
    split at h
    · rename_i bf hbf
      split at h
      · rename_i hc
        obtain ⟨hc1, hc2⟩ := hc
        obtain ⟨b, cap, fill, hrt, hβ, hle, hv⟩ := hr.own_inv
        obtain ⟨a1, a2, a3, arr, fz, t0, a4, a5, a6, a7⟩ := h1.bufs id bf b cap fill hbf hβ
        have hff : es.length = fill := by rw [a1, hc1]
        have hge : w.heap.size ≤ b := by
          rcases hf.βnew b (List.mem_map.2 ⟨_, List.mem_of_getElem? hβ, rfl⟩) with h | h
          · simp [Cx.bare] at h
          · exact h
        have hlt : b < w1.heap.size := h1.β_lt hβ
        have hnρ : b ∉ Γ1.ρ := fun hm => by
          obtain ⟨i, hi⟩ := List.mem_iff_getElem?.1 hm
          exact h1.ρ_ne_β hi hβ
        -- what is constant: as the callee had it
        obtain ⟨hs2, hf2⟩ := hs.extend (M2 := Γ1.M) hf.os hf.tape hf.output hf.size (fun c hc => hf.blk c hc (by simp [Cx.bare])) hf.M (fun b o hne => by
          rcases hf.Mnew b o hne with h | h
          · exact h
          · simp [Cx.bare] at h) h1.mem
        have hnb : b ∉ Γ.ρ ++ Γ.β.map (·.1) := fun hm => by have := hs.lt b hm; omega
        refine ⟨_, _, ⟨Γ1.M, Γ.ρ, Γ.β ++ [(b, cap, fill)]⟩, h, ?_, ?_, ?_⟩
        · exact .own hrt (by rw [← hs.blen]; exact get_append_self _ _) hle hv
        · refine ⟨hs2.len, by simp [hs.blen], ?_, ?_, h1.mem, hs2.apart, ?_, ?_⟩
          · simp only [List.map_append, List.map_cons, List.map_nil, ← List.append_assoc]
            refine List.nodup_append.2 ⟨hs.nodup, by simp, fun x hx y hy => ?_⟩
            simp at hy; subst hy
            exact fun e => hnb (e ▸ hx)
          · intro c hc
            simp only [List.map_append, List.map_cons, List.map_nil, ← List.append_assoc] at hc
            rcases List.mem_append.1 hc with hc | hc
            · exact Nat.lt_of_lt_of_le (hs.lt c hc) hf.size
            · simp at hc; subst hc; exact hlt
          · intro i ob c e1 e2
            exact (hs2.obs i ob c e1 e2).keep rfl (fun v d h => Rep.mono (Γ := { Γ with M := Γ1.M }) (Γ' := ⟨Γ1.M, Γ.ρ, Γ.β ++ [(b, cap, fill)]⟩) (fun _ _ _ h => h) (fun _ _ h => h) (fun _ b c f h => ⟨b, c, f, get_append_of h _, Nat.le_refl _, fun _ => ⟨rfl, rfl⟩⟩) h) (fun _ _ _ h => h) (fun _ _ h => h)
          · intro k bf' c cap' fill' e1 e2
            rcases get_append_one e2 with e2 | ⟨e3, e4⟩
            · have e1' : s.bufs[k]? = some bf' := by
                rcases get_append_one e1 with e1 | ⟨e1, _⟩
                · exact e1
                · have := (List.getElem?_eq_some_iff.1 e2).1; rw [hs.blen] at this; omega
              exact hs2.bufs k bf' c cap' fill' e1' e2
            · injection e4 with e4 e5; injection e5 with e5 e6
              subst e4; subst e5; subst e6
              have : bf' = bf := by
                rw [e3, hs.blen, get_append_self] at e1; injection e1 with e1; exact e1.symm
              subst this
              exact ⟨a1, a2, a3, arr, fz, t0, a4, a5, a6, a7⟩
        · refine ⟨hf2.os, hf2.tape, hf2.output, hf2.size, hf2.blk, hf2.M, hf2.Mnew, hf2.ρ, hf2.ρnew, fun k b c f hb => ⟨b, c, f, get_append_of hb _, Nat.le_refl _, fun _ => ⟨rfl, rfl⟩⟩, fun c hc => ?_⟩
          simp only [List.map_append, List.map_cons, List.map_nil] at hc
          rcases List.mem_append.1 hc with hc | hc
          · exact .inl hc
          · simp at hc; subst hc; exact .inr hge
      · cases h
    · cases h
  · rename_i hne
    split at h
    · rename_i x hx
      obtain ⟨a1, a2⟩ := own_frame hs h1 hf
      exact ⟨_, _, _, h, .pv (toDtS_rep h1 hr hx), a1, a2⟩
    · cases h

/-! ### a call that only looks -/

def lookM (Γ : Cx) (w : World) : Mem := fun b o => if b ∈ Γ.ρ then w.cell? ⟨b, o, none⟩ else Γ.M b o

theorem lookM_ext (hs : Sat Γ w s) : ∀ b o v, Γ.M b o = some v → lookM Γ w b o = some v := ownM_ext (Γ1 := Γ) hs
theorem lookM_mem (hs : Sat Γ w s) : ∀ b o v, lookM Γ w b o = some v → w.cell? ⟨b, o, none⟩ = some v := ownM_mem (Γ1 := Γ) hs

theorem cellDt_one {d : D} {x : Dt} (h : d.cellDt = some x) (h1 : d.one = true) : x.one = true := by
  unfold D.cellDt at h
  split at h <;> simp at h <;> subst h <;> simp_all [D.one, Dt.one]

theorem snap_rep {v : Value} {d x : D} (hs : Sat Γ w s) (hr : Rep Γ v d) (hx : snapD s d = some x) : Rep (Cx.bare (lookM Γ w)) v x := by
  unfold snapD at hx
  split at hx
  · rename_i id off
    split at hx <;> try (simp at hx; done)
    rename_i cs t0 hob
    split at hx <;> simp at hx
    rename_i l hl
    subst hx
    obtain ⟨b, hb, arr, hg, hrr, hone⟩ := hs.get_ρ hob
    obtain ⟨b', rfl, hb'⟩ := hr.ptr_inv
    rw [hb] at hb'; cases hb'
    have hll := omap_length hl
    have hal : arr.size = cs.length := by have := hrr.1; simpa using this
    have hlr : RepL (RepT Γ.M) arr.toList l := RepL.omap (R := Rep Γ) (f := D.cellDt) (fun _ _ _ h hx => cellDt_rep h hx) hrr hl
    have := Rep.cptr (Γ := Cx.bare (lookM Γ w)) (b := b) (o := 0) (sz := cs.length) (i := 0) (off := off) (es := [.agg l]) (e := .agg l) (fun j => arr.getD j undef) rfl (fun j hj => by
      have hj' : j < arr.size := by simp [Dt.cells] at hj; omega
      show lookM Γ w b (0 + j) = some _
      unfold lookM
      rw [if_pos (List.mem_of_getElem? hb)]
      simp [World.cell?, hg, hj']) (fun j c hc => by
      have hc : l[j]? = some c := hc
      have hj : j < l.length := (List.getElem?_eq_some_iff.1 hc).1
      have hj' : j < arr.size := by omega
      have hv : arr.toList[j]? = some (arr.getD j undef) := by simp [hj']
      refine ⟨(hlr.2 j _ c hv hc).mono (lookM_ext hs), ?_⟩
      have hcs : cs[j]? = some (cs[j]'(by omega)) := List.getElem?_eq_getElem (by omega)
      have hcd := omap_get hl j _ c hcs hc
      rcases hone _ (List.mem_of_getElem? hcs) with h | h
      · exact cellDt_one hcd h
      · rw [h] at hcd; simp [D.cellDt] at hcd)
    rwa [Nat.zero_add] at this
  · simp at hx; subst hx
    cases hr with
    | cptr val he hm hr => exact .cptr val he (fun j hj => lookM_ext hs _ _ _ (hm j hj)) (fun j c hc => ⟨(hr j c hc).1.mono (lookM_ext hs), (hr j c hc).2⟩)
  · cases hd : d.aggDt with
    | none => simp [hd] at hx
    | some y =>
      simp [hd] at hx; subst hx
      exact Rep.pv (Γ := Cx.bare (lookM Γ w)) ((aggDt_rep hr hd).mono (lookM_ext hs))

theorem look_start (hs : Sat Γ w s) : Sat (Cx.bare (lookM Γ w)) w .nil := bare_sat (lookM_mem hs)

theorem look_sound {w1 : World} {Γ1 : Cx} {v : Value} {x : Dt} (hs : Sat Γ w s) (hr : Rep Γ1 v (.pv x)) (hx : x.scalar = true) (hf : Fwd (Cx.bare (lookM Γ w)) w Γ1 w1) :
    Rep Γ v (.pv x) ∧ Sat Γ w1 s ∧ Fwd Γ w Γ w1 := by
  obtain ⟨a1, a2⟩ := hs.same hf.os hf.tape hf.output hf.size (fun c hc => hf.blk c hc (by simp [Cx.bare]))
  refine ⟨?_, a1, a2⟩
  have h := hr.pv_inv
  cases x with
  | int k n => rw [h.int_inv]; exact .pv .int
  | bool b => rw [h.bool_inv]; exact .pv .bool
  | str l => obtain ⟨sb, rfl, hl⟩ := h.str_inv; exact .pv (.str hl)
  | _ => simp [Dt.scalar] at hx

end
end Go.DI

/-
  Operations in a row beside the evaluator.
-/
namespace Go.DI
open Go

section
variable {T : Par} {w w' : World} {Γ Γ' : Cx} {s : St} {b : Frame} {a : Act} {k : List Item} {cs : List Frame} {ops : Array Oper} {i : Nat} {rest : List Nat} {o : Oper}

theorem step_value {P : Program} {v : Value} (ho : ops[i]? = some o) (hw : Region.wanted o (yielded ops a.tmps) = true) (hd : ∀ c, o.op ≠ .defer c) (h : OpGives P a o w v w') :
    Go.step P (lone (b.atR a (.inRegion ops (i :: rest) :: k)) cs w) = .next (lone (b.atR (a.put o.dst v) (.inRegion ops rest :: k)) cs w') := by
  have hg := stepGR_op (P := P) (b := b) (k := k) (cs := cs) (w := w) (rest := rest) ho hw
  rw [Oper.semAt_eq _ _ _ hd] at hg
  have hfin : (b.atR a (.inRegion ops (i :: rest) :: k)).finish v = b.atR (a.put o.dst v) (.inRegion ops rest :: k) := by
    rw [Frame.finish_atR, ho]; rfl
  rw [← hfin]
  refine step_lone_go ?_
  rw [hg]
  rcases h with h | ⟨h, rfl⟩
  · simp [stepG.apply, h]
  · simp [stepG.apply, h]

theorem steps_call {P : Program} {f : FuncId} {vs : Array Value} {X : Value → World → Prop} (ho : ops[i]? = some o) (hw : Region.wanted o (yielded ops a.tmps) = true) (hd : ∀ c, o.op ≠ .defer c)
    (he : execOp a.eval o = callFunc f vs) (hcf : (callFunc f vs).run P w = .ok (.enter f vs) w) (hc : Calls P f vs w fun e w' => ∃ v, e = .returned v ∧ X v w') :
    ∃ v w', X v w' ∧ Steps P (lone (b.atR a (.inRegion ops (i :: rest) :: k)) cs w) (lone (b.atR (a.put o.dst v) (.inRegion ops rest :: k)) cs w') := by
  have hg := stepGR_op (P := P) (b := b) (k := k) (cs := cs) (w := w) (rest := rest) ho hw
  rw [Oper.semAt_eq _ _ _ hd] at hg
  obtain ⟨e, w', fr, ⟨v, rfl, hX⟩, hsteps, _, hleave⟩ := hc (b.atR a (.inRegion ops (i :: rest) :: k) :: cs)
  have henter : Go.step P (lone (b.atR a (.inRegion ops (i :: rest) :: k)) cs w) = .next (lone (Frame.enter P f vs .normal) (b.atR a (.inRegion ops (i :: rest) :: k) :: cs) w) := by
    refine step_lone_go ?_
    rw [hg, he]
    simp [stepG.apply, hcf, Frame.atR]
  have hfin : (b.atR a (.inRegion ops (i :: rest) :: k)).finish v = b.atR (a.put o.dst v) (.inRegion ops rest :: k) := by
    rw [Frame.finish_atR, ho]; rfl
  refine ⟨v, w', hX, .head henter (Steps.trans hsteps (.one ?_))⟩
  rw [← hfin]; exact step_leave_returned hleave

theorem steps_round {P : Program} {bl f : Nat} {vs tmps : Array Value} {assign body : Code} {X : Value → World → Prop} (ho : ops[i]? = some o) (hw : Region.wanted o (yielded ops a.tmps) = true) (hd : ∀ c, o.op ≠ .defer c)
    (he : execOp a.eval o = Instr.yield bl vs) (hy : (Instr.yield bl vs).run P w = .ok (.round bl f tmps assign body) w)
    (hc : ∀ c cs, ∃ v w', X v w' ∧ Steps P (lone (Frame.round bl f tmps assign body .normal) (c :: cs) w) (lone (c.finish v) cs w')) :
    ∃ v w', X v w' ∧ Steps P (lone (b.atR a (.inRegion ops (i :: rest) :: k)) cs w) (lone (b.atR (a.put o.dst v) (.inRegion ops rest :: k)) cs w') := by
  have hg := stepGR_op (P := P) (b := b) (k := k) (cs := cs) (w := w) (rest := rest) ho hw
  rw [Oper.semAt_eq _ _ _ hd] at hg
  obtain ⟨v, w', hX, hsteps⟩ := hc (b.atR a (.inRegion ops (i :: rest) :: k)) cs
  have henter : Go.step P (lone (b.atR a (.inRegion ops (i :: rest) :: k)) cs w) = .next (lone (Frame.round bl f tmps assign body .normal) (b.atR a (.inRegion ops (i :: rest) :: k) :: cs) w) := by
    refine step_lone_go ?_
    rw [hg, he]
    simp [stepG.apply, hy, Frame.atR]
  have hfin : (b.atR a (.inRegion ops (i :: rest) :: k)).finish v = b.atR (a.put o.dst v) (.inRegion ops rest :: k) := by
    rw [Frame.finish_atR, ho]; rfl
  refine ⟨v, w', hX, .head henter ?_⟩
  rw [← hfin]; exact hsteps

theorem allP_mem {α : Type} {K : α → Prop} : ∀ {l : List α}, allP K l → ∀ x ∈ l, K x
  | [], _, x, hx => by simp at hx
  | [c], h, x, hx => by simp at hx; subst hx; exact h
  | c :: d :: r, h, x, hx => by
    rcases List.mem_cons.1 hx with rfl | hx
    · exact h.1
    · exact allP_mem h.2 x hx

theorem exec_call {P : Program} {m : Mop} {f : FuncId} {args : List D} (h : exec P m s = .call f args) : m = .call f args := by
  cases m with
  | call g as => simp only [exec] at h; injection h with e1 e2; subst e1; subst e2; rfl
  | mkIter o => cases o <;> ((simp only [exec] at h; repeat' split at h) <;> simp at h)
  | _ => (simp only [exec] at h; repeat' split at h) <;> simp at h

theorem exec_round {P : Program} {m : Mop} {l : Nat} {args : List D} (h : exec P m s = .round l args) : m = .round l args := by
  cases m with
  | round g as => simp only [exec] at h; injection h with e1 e2; subst e1; subst e2; rfl
  | mkIter o => cases o <;> ((simp only [exec] at h; repeat' split at h) <;> simp at h)
  | _ => (simp only [exec] at h; repeat' split at h) <;> simp at h

theorem exec_fail_of_defer {P : Program} {ts : List D} {c : Call} (h : o.op = .defer c) : exec P (dec P o ts) s = .fail := by
  simp [dec, h, exec]

/-- one wanted operation -/
theorem op_sim {ts : List D} {det : Bool} {K : D → St → Prop} (ho : ops[i]? = some o) (hw : Region.wanted o (yielded ops a.tmps) = true) (hs : Sat Γ w s) (ha : RepA Γ a ts)
    (h : runR T (SimD T) det o (exec T.P (dec T.P o ts) s) s K) :
    ∃ d s' v w' Γ', K d s' ∧ Steps T.P (lone (b.atR a (.inRegion ops (i :: rest) :: k)) cs w) (lone (b.atR (a.put o.dst v) (.inRegion ops rest :: k)) cs w') ∧
      Rep Γ' v d ∧ Sat Γ' w' s' ∧ Fwd Γ w Γ' w' := by
  have hsound := dec_sound (P := T.P) (o := o) hs ha
  have hnd : exec T.P (dec T.P o ts) s ≠ .fail → ∀ c, o.op ≠ .defer c := fun hne c hc => hne (exec_fail_of_defer hc)
  cases he : exec T.P (dec T.P o ts) s with
  | val d s' =>
    rw [he] at h
    obtain ⟨v, w', Γ', h1, h2, h3, h4⟩ := hsound.1 d s' he
    exact ⟨d, s', v, w', Γ', h, .one (step_value ho hw (hnd (by rw [he]; simp)) h1), h2, h3, h4⟩
  | choose cands =>
    rw [he] at h
    obtain ⟨d, s', hm, v, w', Γ', h1, h2, h3, h4⟩ := hsound.2 cands he
    exact ⟨d, s', v, w', Γ', allP_mem h.2 _ hm, .one (step_value ho hw (hnd (by rw [he]; simp)) h1), h2, h3, h4⟩
  | fail => rw [he] at h; cases h
  | round l args =>
    rw [he] at h
    obtain ⟨hd, vs, bl, hex, hargs, hl⟩ := dec_round ha (exec_round he)
    obtain ⟨f, tmps, assign, body, hy, hc⟩ := SimD.sim h Γ w vs bl hs hargs hl
    obtain ⟨v, w', ⟨d, r, Γ', hQ, h1, h2, h3⟩, hst⟩ := steps_round (b := b) (k := k) (cs := cs) (rest := rest) (X := fun v w' => ∃ d s' Γ', K d s' ∧ Rep Γ' v d ∧ Sat Γ' w' s' ∧ Fwd Γ w Γ' w') ho hw hd hex hy (fun c cs => by
      obtain ⟨v, r, d, Γ', w', hQ, h1, h2, h3, h4, h5⟩ := hc c cs
      rw [h2] at hQ
      exact ⟨v, w', ⟨d, r.s, Γ', hQ, h3, h4, h5⟩, h1⟩)
    exact ⟨d, r, v, w', Γ', hQ, hst, h1, h2, h3⟩
  | call f args =>
    rw [he] at h
    obtain ⟨hd, vs, hex, hargs⟩ := dec_call ha (exec_call he)
    simp only [runR] at h
    split at h
    · -- of data alone
      split at h
      · rename_i xs hx
        have hsim := SimD.sim h (Cx.bare Γ.M) w vs (bare_sat hs.mem) (iso_args hargs hx)
        obtain ⟨hcf, hcalls⟩ := hsim
        obtain ⟨v, w', ⟨d, s', Γ', h1, h2, h3, h4⟩, hst⟩ := steps_call (b := b) (k := k) (cs := cs) (rest := rest) (X := fun v w' => ∃ d s' Γ', K d s' ∧ Rep Γ' v d ∧ Sat Γ' w' s' ∧ Fwd Γ w Γ' w') ho hw hd hex hcf (Calls.mono hcalls (by
          rintro e w' ⟨v, r, d, Γ', rfl, hQ, h2, h3, h4, h5⟩
          rw [h2] at hQ
          exact ⟨v, rfl, iso_sound hs h4 h3 h5 hQ⟩))
        exact ⟨d, s', v, w', Γ', h1, hst, h2, h3, h4⟩
      · cases h
    · split at h
      · -- only looks
        split at h
        · rename_i xs hx
          have hargs' : RepL (Rep (Cx.bare (lookM Γ w))) vs.toList xs := RepL.omap (R := Rep Γ) (f := snapD s) (fun _ _ _ hr hx => snap_rep hs hr hx) hargs hx
          have hsim := SimD.sim h (Cx.bare (lookM Γ w)) w vs (look_start hs) hargs'
          obtain ⟨hcf, hcalls⟩ := hsim
          obtain ⟨v, w', ⟨d, s', Γ', h1, h2, h3, h4⟩, hst⟩ := steps_call (b := b) (k := k) (cs := cs) (rest := rest) (X := fun v w' => ∃ d s' Γ', K d s' ∧ Rep Γ' v d ∧ Sat Γ' w' s' ∧ Fwd Γ w Γ' w') ho hw hd hex hcf (Calls.mono hcalls (by
            rintro e w' ⟨v, r, d, Γ', rfl, hQ, h2, h3, h4, h5⟩
            rw [h2] at hQ
            split at hQ
            · rename_i x hx
              injection hx with hx
              subst hx
              split at hQ
              · rename_i hsc
                obtain ⟨b1, b2, b3⟩ := look_sound hs h3 hsc h5
                exact ⟨v, rfl, _, _, Γ, hQ, b1, b2, b3⟩
              · cases hQ
            · cases hQ))
          exact ⟨d, s', v, w', Γ', h1, hst, h2, h3, h4⟩
        · cases h
      · have hsim := SimD.sim h Γ w vs hs hargs
        obtain ⟨hcf, hcalls⟩ := hsim
        obtain ⟨v, w', ⟨d, s', Γ', h1, h2, h3, h4⟩, hst⟩ := steps_call (b := b) (k := k) (cs := cs) (rest := rest) (X := fun v w' => ∃ d s' Γ', K d s' ∧ Rep Γ' v d ∧ Sat Γ' w' s' ∧ Fwd Γ w Γ' w') ho hw hd hex hcf (Calls.mono hcalls (by
          rintro e w' ⟨v, r, d, Γ', rfl, hQ, h2, h3, h4, h5⟩
          rw [h2] at hQ
          obtain ⟨Γ'', b1, b2, b3⟩ := tidy_sound hs h3 h4 h5
          exact ⟨v, rfl, d, _, Γ'', hQ, b1, b2, b3⟩))
        exact ⟨d, s', v, w', Γ', h1, hst, h2, h3, h4⟩

/-- operations in a row -/
theorem list_sim {det : Bool} {K : List D → St → Prop} : ∀ (os : List Oper) (l : List Nat) (ts : List D) (s : St) (Γ : Cx) (w : World) (a : Act), l.map (fun i => ops[i]?) = os.map some → Sat Γ w s → RepA Γ a ts →
    dList T (SimD T) det ops K os ts s → ∃ ts' s' a' w' Γ', K ts' s' ∧ Steps T.P (lone (b.atR a (.inRegion ops l :: k)) cs w) (lone (b.atR a' k) cs w') ∧ RepA Γ' a' ts' ∧ Sat Γ' w' s' ∧ Fwd Γ w Γ' w' ∧ a'.defers = a.defers
  | [], l, ts, s, Γ, w, a, hl, hs, ha, h => by
    have : l = [] := by simpa using hl
    subst this
    exact ⟨ts, s, a, w, Γ, h, .one stepR_region_end, ha, hs, .refl _ _, rfl⟩
  | o :: os, l, ts, s, Γ, w, a, hl, hs, ha, h => by
    cases l with
    | nil => simp at hl
    | cons i l =>
      simp only [List.map_cons, List.cons.injEq] at hl
      obtain ⟨ho, hl⟩ := hl
      simp only [dList] at h
      have h := wants_sound ha h
      have hpd : ∀ v, (a.put o.dst v).defers = a.defers := fun v => by cases o.dst <;> rfl
      by_cases hw : Region.wanted o (yielded ops a.tmps) = true
      · rw [if_pos hw] at h
        obtain ⟨d, s', v, w', Γ', h1, h2, h3, h4, h5⟩ := op_sim (b := b) (k := k) (cs := cs) (rest := l) ho hw hs ha h
        obtain ⟨ts', s'', a', w'', Γ'', g1, g2, g3, g4, g5, g6⟩ := list_sim os l _ s' Γ' w' (a.put o.dst v) hl h4 (put_rep (h5.repL ha) h3) h1
        exact ⟨ts', s'', a', w'', Γ'', g1, h2.trans g2, g3, g4, h5.trans g5, by rw [g6, hpd]⟩
      · rw [if_neg hw] at h
        have hst : Go.step T.P (lone (b.atR a (.inRegion ops (i :: l) :: k)) cs w) = .next (lone (b.atR (a.put o.dst undef) (.inRegion ops l :: k)) cs w) := by
          have := stepR_op_skip (P := T.P) (b := b) (a := a) (k := k) (cs := cs) (w := w) (ops := ops) (i := i) (rest := l) (by rw [ho]; simpa using hw)
          rwa [ho] at this
        obtain ⟨ts', s'', a', w'', Γ'', g1, g2, g3, g4, g5, g6⟩ := list_sim os l _ s Γ w (a.put o.dst undef) hl hs (put_rep ha undef_rep) h
        exact ⟨ts', s'', a', w'', Γ'', g1, .head hst g2, g3, g4, g5, by rw [g6, hpd]⟩

end
end Go.DI

/-
  The evaluator: monotone, and where it must be, of one outcome.
-/
namespace Go.DI
open Go

def MonoR (R : RT) : Prop := ∀ c (Q Q' : Res → Prop), (∀ r, Q r → Q' r) → R c Q → R c Q'
def LeR (R R' : RT) : Prop := ∀ c (Q : Res → Prop), R c Q → R' c Q
def DetR (R : RT) : Prop := ∀ c (Q : Res → Prop), c.det = true → R c Q → ∃ r, Q r ∧ R c (· = r)

section
variable {T : Par} {R R' : RT}

theorem Bad.elim' {α : Type} {a : α} {p : Prop} (h : Bad a) : p := by cases h

theorem wants_mono {ops : Array Oper} {o : Oper} {ts : List D} {K K' : Bool → Prop} (hk : ∀ b, K b → K' b) (h : wants ops o ts K) : wants ops o ts K' := by
  unfold wants at h ⊢
  split at h
  · exact hk _ h
  · split at h
    · split at h
      · split at h <;> rename_i hb <;> simp only [hb, if_true, if_false] <;> exact hk _ h
      · exact hk _ h
      · exact h.elim'
    · exact h.elim'

theorem allP_mono {α : Type} {K K' : α → Prop} (hk : ∀ a, K a → K' a) : ∀ {l : List α}, allP K l → allP K' l
  | [], _ => trivial
  | [c], h => hk _ h
  | c :: d :: r, h => ⟨hk _ h.1, allP_mono hk (l := d :: r) h.2⟩

theorem isoRes_mono {f : FuncId} {o : Oper} {s' s : St} {d : D} {K K' : D → St → Prop} (hk : ∀ d s, K d s → K' d s) (h : isoRes T f o s' d s K) : isoRes T f o s' d s K' := by
  unfold isoRes at h ⊢
  split at h
  · split at h
    · split at h
      · rename_i hc; rw [if_pos hc]; exact hk _ _ h
      · exact h.elim'
    · exact h.elim'
  · split at h
    · exact hk _ _ h
    · exact h.elim'

/-- the answer of a call, of one value -/
theorem ts_mono {o : Oper} {F F' : D → Res → Prop} (hk : ∀ d r, F d r → F' d r) (r : Res) (h : match r.ts with | [d] => F d r | _ => Bad o) : match r.ts with | [d] => F' d r | _ => Bad o := by
  split at h
  · exact hk _ _ h
  · exact h.elim'

theorem runR_mono (hm : MonoR R) (hle : LeR R R') {det : Bool} {o : Oper} {r : OpR} {s : St} {K K' : D → St → Prop} (hk : ∀ d s, K d s → K' d s) (h : runR T R det o r s K) : runR T R' det o r s K' := by
  unfold runR at h ⊢
  split at h
  · exact hk _ _ h
  · exact ⟨h.1, allP_mono (fun c => hk _ _) h.2⟩
  · split at h
    · rename_i hi
      simp only [hi, if_true]
      split at h
      · exact hle _ _ (hm _ _ _ (fun r hr => ts_mono (F := fun d r => isoRes T _ o r.s d s K) (F' := fun d r => isoRes T _ o r.s d s K') (fun d r => isoRes_mono hk) r hr) h)
      · exact h.elim'
    · rename_i hi
      simp only [hi]
      split at h
      · rename_i hl
        simp only [hl, if_true]
        split at h
        · refine hle _ _ (hm _ _ _ (fun r hr => ?_) h)
          split at hr
          · split at hr
            · rename_i hs; rw [if_pos hs]; exact hk _ _ hr
            · exact hr.elim'
          · exact hr.elim'
        · exact h.elim'
      · rename_i hl
        simp only [hl]
        exact hle _ _ (hm _ _ _ (fun r hr => ts_mono (F := fun d r => K d (tidy s.obs.length s.bufs.length d r.s)) (F' := fun d r => K' d (tidy s.obs.length s.bufs.length d r.s)) (fun d r => hk _ _) r hr) h)
  · exact hle _ _ (hm _ _ _ (fun r hr => ts_mono (F := fun d r => K d r.s) (F' := fun d r => K' d r.s) (fun d r => hk _ _) r hr) h)
  · exact h.elim'

theorem dList_mono (hm : MonoR R) (hle : LeR R R') {det : Bool} {ops : Array Oper} {K K' : List D → St → Prop} (hk : ∀ ts s, K ts s → K' ts s) : ∀ (os : List Oper) (ts : List D) (s : St), dList T R det ops K os ts s → dList T R' det ops K' os ts s
  | [], ts, s, h => hk _ _ h
  | o :: os, ts, s, h => by
    simp only [dList] at h ⊢
    refine wants_mono (fun b hb => ?_) h
    cases b with
    | true => simp only [if_true] at hb ⊢; exact runR_mono hm hle (fun d s hh => dList_mono hm hle hk os _ _ hh) hb
    | false => simp only [Bool.false_eq_true, if_false] at hb ⊢; exact dList_mono hm hle hk os _ _ hb

theorem dDraw_mono (hm : MonoR R) (hle : LeR R R') {ops : Array Oper} {bef : Array Nat} {K K' : List D → St → Prop} (hk : ∀ ts s, K ts s → K' ts s) : ∀ (os : List Oper) (i : Nat) (acc : List (Nat × Oper × Fp)) (ts : List D) (s : St),
    dDraw T R ops bef K i acc os ts s → dDraw T R' ops bef K' i acc os ts s
  | [], i, acc, ts, s, h => hk _ _ h
  | o :: os, i, acc, ts, s, h => by
    simp only [dDraw] at h ⊢
    refine wants_mono (fun b hb => ?_) h
    cases b with
    | true =>
      simp only [if_true] at hb ⊢
      split at hb
      · rename_i hc
        rw [if_pos hc]
        exact runR_mono hm hle (fun d s hh => dDraw_mono hm hle hk os _ _ _ _ hh) hb
      · exact hb.elim'
    | false =>
      simp only [Bool.false_eq_true, if_false] at hb ⊢
      split at hb
      · rename_i hc
        rw [if_pos hc]
        exact dDraw_mono hm hle hk os _ _ _ _ hb
      · exact hb.elim'

theorem dEnd_mono {l : Nat} {ts : List D} {s : St} {K K' : Xt → List D → St → Prop} (hk : ∀ x ts s, K x ts s → K' x ts s) (h : dCode.dEnd l ts s K) : dCode.dEnd l ts s K' := by
  unfold dCode.dEnd at h ⊢
  split at h
  · split at h
    · exact h.elim
    · rename_i hst; rw [if_neg hst]; exact hk _ _ _ h
  · exact h.elim

theorem dCode_mono (hm : MonoR R) (hle : LeR R R') {md : Md} : ∀ (c : Code) (ts : List D) (s : St) (K K' : Xt → List D → St → Prop), (∀ x ts s, K x ts s → K' x ts s) → dCode T R md c ts s K → dCode T R' md c ts s K'
  | .skip, ts, s, K, K', hk, h | .label _, ts, s, K, K', hk, h | .exit _, ts, s, K, K', hk, h | .goto _, ts, s, K, K', hk, h | .ret, ts, s, K, K', hk, h => hk _ _ _ h
  | .refuse _, ts, s, K, K', hk, h => by exact h.elim
  | .region id ops draw, ts, s, K, K', hk, h => by
    simp only [dCode] at h ⊢
    split at h
    · rename_i hd
      rw [if_pos hd]
      split at h
      · rename_i hok; rw [if_pos hok]; exact dDraw_mono hm hle (hk _) _ _ _ _ _ h
      · exact h.elim'
    · rename_i hd
      rw [if_neg hd]; exact dList_mono hm hle (hk _) _ _ _ h
  | .seq x y, ts, s, K, K', hk, h => by
    simp only [dCode] at h ⊢
    refine dCode_mono hm hle x ts s _ _ (fun e ts s hh => ?_) h
    cases e with
    | normal => exact dCode_mono hm hle y ts s K K' hk hh
    | _ => exact hk _ _ _ hh
  | .cond c x y, ts, s, K, K', hk, h => by
    simp only [dCode] at h ⊢
    split at h
    · split at h
      · rename_i ht; rw [if_pos ht]; exact dCode_mono hm hle x ts s K K' hk h
      · rename_i ht; rw [if_neg ht]; exact dCode_mono hm hle y ts s K K' hk h
    · exact h.elim'
  | .block id c, ts, s, K, K', hk, h => by
    simp only [dCode] at h ⊢
    refine dCode_mono hm hle c ts s _ _ (fun e ts s hh => ?_) h
    cases e with
    | exit id' =>
      simp only at hh ⊢
      split at hh
      · rename_i hi; rw [if_pos hi]; exact hk _ _ _ hh
      · rename_i hi; rw [if_neg hi]; exact hk _ _ _ hh
    | _ => exact hk _ _ _ hh
  | .loop c, ts, s, K, K', hk, h => by
    simp only [dCode] at h ⊢
    exact hle _ _ (hm _ _ _ (fun r => hk _ _ _) h)
  | .scope c, ts, s, K, K', hk, h => by
    simp only [dCode] at h ⊢
    exact hle _ _ (hm _ _ _ (fun r => hk _ _ _) h)
  | .rangeFunc f params assign body, ts, s, K, K', hk, h => by
    simp only [dCode] at h ⊢
    split at h
    · exact hle _ _ (hm _ _ _ (fun r => dEnd_mono hk) h)
    · exact hle _ _ (hm _ _ _ (fun r => dEnd_mono hk) h)
    · exact h.elim'

theorem leaveD_mono {P : Program} {fn : Func} {ts : List D} {s : St} {Q Q' : Res → Prop} (hq : ∀ r, Q r → Q' r) (h : leaveD P fn ts s Q) : leaveD P fn ts s Q' := by
  unfold leaveD at h ⊢
  split at h
  · exact hq _ h
  · exact h.elim'

theorem step_mono (hm : MonoR R) (hle : LeR R R') {c : Cl} {Q Q' : Res → Prop} (hq : ∀ r, Q r → Q' r) (h : step T R c Q) : step T R' c Q' := by
  cases c with
  | call det f args s =>
    simp only [step] at h ⊢
    split at h
    · split at h
      · refine dCode_mono hm hle _ _ _ _ _ (fun e ts s hh => ?_) h
        cases e with
        | normal => exact leaveD_mono hq hh
        | ret => exact leaveD_mono hq hh
        | _ => exact hh.elim'
      · exact h.elim'
    · exact h.elim'
  | loop md body ts s =>
    simp only [step] at h ⊢
    refine dCode_mono hm hle _ _ _ _ _ (fun e ts s hh => ?_) h
    cases e with
    | normal => exact hle _ _ (hm _ _ _ hq hh)
    | _ => exact hq _ hh
  | scope md body rest ts s =>
    simp only [step] at h ⊢
    refine dCode_mono hm hle _ _ _ _ _ (fun e ts s hh => ?_) h
    cases e with
    | goto l =>
      simp only at hh ⊢
      split at hh
      · exact hle _ _ (hm _ _ _ hq hh)
      · exact hq _ hh
    | _ => exact hq _ hh
  | round det l args s =>
    simp only [step] at h ⊢
    split at h
    · split at h
      · rename_i hc
        rw [if_pos hc]
        refine dCode_mono hm hle _ _ _ _ _ (fun e ts s hh => ?_) h
        cases e with
        | normal =>
          simp only at hh ⊢
          split at hh
          · refine dCode_mono hm hle _ _ _ _ _ (fun e ts s hh => ?_) hh
            split at hh
            · cases e <;> exact hq _ hh
            · exact hh.elim
          · exact hh.elim
        | _ => exact hh.elim
      · exact h.elim
    · exact h.elim

/-! ### one outcome -/

theorem wants_b {ops : Array Oper} {o : Oper} {ts : List D} {K : Bool → Prop} (h : wants ops o ts K) : ∃ b, K b ∧ ∀ K' : Bool → Prop, K' b → wants ops o ts K' := by
  unfold wants at h ⊢
  split at h
  · exact ⟨_, h, fun K' h => h⟩
  · split at h
    · split at h
      · rename_i b hb
        split at h
        · rename_i hbw; exact ⟨_, h, fun K' h => by rw [if_pos hbw]; exact h⟩
        · rename_i hbw; exact ⟨_, h, fun K' h => by rw [if_neg hbw]; exact h⟩
      · exact ⟨_, h, fun K' h => h⟩
      · exact h.elim'
    · exact h.elim'

def At (d : D) (s : St) : D → St → Prop := fun d' s' => d' = d ∧ s' = s

theorem isoRes_det {f : FuncId} {o : Oper} {s' s : St} {d : D} {K : D → St → Prop} (h : isoRes T f o s' d s K) : ∃ d1 s1, K d1 s1 ∧ isoRes T f o s' d s (At d1 s1) := by
  unfold isoRes at h ⊢
  split at h
  · split at h
    · split at h
      · rename_i hc; exact ⟨_, _, h, by rw [if_pos hc]; exact ⟨rfl, rfl⟩⟩
      · exact h.elim'
    · exact h.elim'
  · split at h
    · exact ⟨_, _, h, rfl, rfl⟩
    · exact h.elim'

theorem ts_one {o : Oper} {F : D → Res → Prop} {r : Res} (h : match r.ts with | [d] => F d r | _ => Bad o) : ∃ d, r.ts = [d] ∧ F d r := by
  split at h
  · exact ⟨_, by assumption, h⟩
  · exact h.elim'

theorem runR_det (hm : MonoR R) (hd : DetR R) {o : Oper} {r : OpR} {s : St} {K : D → St → Prop} (h : runR T R true o r s K) : ∃ d s', K d s' ∧ runR T R true o r s (At d s') := by
  unfold runR at h ⊢
  split at h
  · exact ⟨_, _, h, rfl, rfl⟩
  · rename_i cs
    obtain ⟨h1, h2⟩ := h
    simp only [if_true] at h1
    match cs, h1, h2 with
    | [c], _, h2 => exact ⟨c.1, c.2, h2, by simp, rfl, rfl⟩
  · split at h
    · rename_i hi
      simp only [hi, if_true]
      split at h
      · obtain ⟨r, h1, h2⟩ := hd _ _ rfl h
        obtain ⟨d, e1, e2⟩ := ts_one (F := fun d r => isoRes T _ o r.s d s K) h1
        obtain ⟨d1, s1, e3, e4⟩ := isoRes_det e2
        exact ⟨d1, s1, e3, hm _ _ _ (fun r' e => by subst e; rw [e1]; exact e4) h2⟩
      · exact h.elim'
    · rename_i hi
      simp only [hi]
      split at h
      · rename_i hl
        simp only [hl, if_true]
        split at h
        · obtain ⟨r, h1, h2⟩ := hd _ _ rfl h
          split at h1
          · rename_i x hx
            split at h1
            · rename_i hs
              exact ⟨.pv x, s, h1, hm _ _ _ (fun r' e => by subst e; rw [hx]; simp only [hs, if_true]; exact ⟨rfl, rfl⟩) h2⟩
            · exact h1.elim'
          · exact h1.elim'
        · exact h.elim'
      · rename_i hl
        simp only [hl]
        obtain ⟨r, h1, h2⟩ := hd _ _ rfl h
        obtain ⟨d, e1, e2⟩ := ts_one (F := fun d r => K d (tidy s.obs.length s.bufs.length d r.s)) h1
        exact ⟨_, _, e2, hm _ _ _ (fun r' e => by subst e; rw [e1]; exact ⟨rfl, rfl⟩) h2⟩
  · obtain ⟨r, h1, h2⟩ := hd _ _ rfl h
    obtain ⟨d, e1, e2⟩ := ts_one (F := fun d r => K d r.s) h1
    exact ⟨_, _, e2, hm _ _ _ (fun r' e => by subst e; rw [e1]; exact ⟨rfl, rfl⟩) h2⟩
  · exact h.elim'

def At2 (ts : List D) (s : St) : List D → St → Prop := fun ts' s' => ts' = ts ∧ s' = s
def At3 (x : Xt) (ts : List D) (s : St) : Xt → List D → St → Prop := fun x' ts' s' => x' = x ∧ ts' = ts ∧ s' = s

theorem LeR.refl (R : RT) : LeR R R := fun _ _ h => h

theorem dList_det (hm : MonoR R) (hd : DetR R) {ops : Array Oper} {K : List D → St → Prop} : ∀ (os : List Oper) (ts : List D) (s : St), dList T R true ops K os ts s → ∃ ts' s', K ts' s' ∧ dList T R true ops (At2 ts' s') os ts s
  | [], ts, s, h => ⟨ts, s, h, rfl, rfl⟩
  | o :: os, ts, s, h => by
    simp only [dList] at h ⊢
    obtain ⟨b, hb, hw⟩ := wants_b h
    cases b with
    | true =>
      simp only [if_true] at hb
      obtain ⟨d, s', h1, h2⟩ := runR_det hm hd hb
      obtain ⟨ts'', s'', h3, h4⟩ := dList_det hm hd os _ _ h1
      exact ⟨ts'', s'', h3, hw _ (by simp only [if_true]; exact runR_mono hm (.refl R) (fun d1 s1 e => by obtain ⟨rfl, rfl⟩ := e; exact h4) h2)⟩
    | false =>
      simp only [Bool.false_eq_true, if_false] at hb
      obtain ⟨ts'', s'', h3, h4⟩ := dList_det hm hd os _ _ hb
      exact ⟨ts'', s'', h3, hw _ (by simp only [Bool.false_eq_true, if_false]; exact h4)⟩

theorem dDraw_det (hm : MonoR R) (hd : DetR R) {ops : Array Oper} {bef : Array Nat} {K : List D → St → Prop} : ∀ (os : List Oper) (i : Nat) (acc : List (Nat × Oper × Fp)) (ts : List D) (s : St), dDraw T R ops bef K i acc os ts s →
    ∃ ts' s', K ts' s' ∧ dDraw T R ops bef (At2 ts' s') i acc os ts s
  | [], i, acc, ts, s, h => ⟨ts, s, h, rfl, rfl⟩
  | o :: os, i, acc, ts, s, h => by
    simp only [dDraw] at h ⊢
    obtain ⟨b, hb, hw⟩ := wants_b h
    cases b with
    | true =>
      simp only [if_true] at hb
      split at hb
      · rename_i hc
        obtain ⟨d, s', h1, h2⟩ := runR_det hm hd hb
        obtain ⟨ts'', s'', h3, h4⟩ := dDraw_det hm hd os _ _ _ _ h1
        exact ⟨ts'', s'', h3, hw _ (by simp only [if_true]; rw [if_pos hc]; exact runR_mono hm (.refl R) (fun d1 s1 e => by obtain ⟨rfl, rfl⟩ := e; exact h4) h2)⟩
      · exact hb.elim'
    | false =>
      simp only [Bool.false_eq_true, if_false] at hb
      split at hb
      · rename_i hc
        obtain ⟨ts'', s'', h3, h4⟩ := dDraw_det hm hd os _ _ _ _ hb
        exact ⟨ts'', s'', h3, hw _ (by simp only [Bool.false_eq_true, if_false]; rw [if_pos hc]; exact h4)⟩
      · exact hb.elim'

theorem dEnd_det {l : Nat} {ts : List D} {s : St} {K : Xt → List D → St → Prop} (h : dCode.dEnd l ts s K) : ∃ x ts' s', K x ts' s' ∧ dCode.dEnd l ts s (At3 x ts' s') := by
  unfold dCode.dEnd at h ⊢
  split at h
  · split at h
    · exact h.elim
    · rename_i hst; exact ⟨_, _, _, h, by rw [if_neg hst]; exact ⟨rfl, rfl, rfl⟩⟩
  · exact h.elim

theorem dCode_det (hm : MonoR R) (hd : DetR R) {md : Md} (hmd : md.det = true) : ∀ (c : Code) (ts : List D) (s : St) (K : Xt → List D → St → Prop), dCode T R md c ts s K → ∃ x ts' s', K x ts' s' ∧ dCode T R md c ts s (At3 x ts' s')
  | .skip, ts, s, K, h | .label _, ts, s, K, h | .exit _, ts, s, K, h | .goto _, ts, s, K, h | .ret, ts, s, K, h => ⟨_, _, _, h, rfl, rfl, rfl⟩
  | .refuse _, ts, s, K, h => by exact h.elim
  | .region id ops draw, ts, s, K, h => by
    simp only [dCode] at h ⊢
    split at h
    · rename_i hdr
      split at h
      · rename_i hok
        obtain ⟨ts', s', h1, h2⟩ := dDraw_det hm hd _ _ _ _ _ h
        refine ⟨_, ts', s', h1, ?_⟩
        rw [if_pos hdr, if_pos hok]
        exact dDraw_mono hm (.refl R) (fun _ _ e => ⟨rfl, e.1, e.2⟩) _ _ _ _ _ h2
      · exact h.elim'
    · rename_i hdr
      rw [hmd] at h ⊢
      obtain ⟨ts', s', h1, h2⟩ := dList_det hm hd _ _ _ h
      refine ⟨_, ts', s', h1, ?_⟩
      rw [if_neg hdr]
      exact dList_mono hm (.refl R) (fun _ _ e => ⟨rfl, e.1, e.2⟩) _ _ _ h2
  | .seq x y, ts, s, K, h => by
    simp only [dCode] at h ⊢
    obtain ⟨e, ts1, s1, h1, h2⟩ := dCode_det hm hd hmd x ts s _ h
    cases e with
    | normal =>
      obtain ⟨e', ts2, s2, h3, h4⟩ := dCode_det hm hd hmd y ts1 s1 _ h1
      exact ⟨e', ts2, s2, h3, dCode_mono hm (.refl R) x ts s _ _ (fun _ _ _ e => by obtain ⟨rfl, rfl, rfl⟩ := e; exact h4) h2⟩
    | _ => exact ⟨_, ts1, s1, h1, dCode_mono hm (.refl R) x ts s _ _ (fun _ _ _ e => by obtain ⟨rfl, rfl, rfl⟩ := e; exact ⟨rfl, rfl, rfl⟩) h2⟩
  | .cond c x y, ts, s, K, h => by
    simp only [dCode] at h ⊢
    split at h
    · split at h
      · rename_i ht; simp only [if_pos ht]; exact dCode_det hm hd hmd x ts s K h
      · rename_i ht; simp only [if_neg ht]; exact dCode_det hm hd hmd y ts s K h
    · exact h.elim'
  | .block id c, ts, s, K, h => by
    simp only [dCode] at h ⊢
    obtain ⟨e, ts1, s1, h1, h2⟩ := dCode_det hm hd hmd c ts s _ h
    cases e with
    | exit id' =>
      by_cases hi : id' = id
      · simp only [hi, if_true] at h1
        exact ⟨_, ts1, s1, h1, dCode_mono hm (.refl R) c ts s _ _ (fun _ _ _ e => by obtain ⟨rfl, rfl, rfl⟩ := e; simp only [hi, if_true]; exact ⟨rfl, rfl, rfl⟩) h2⟩
      · simp only [hi, if_false] at h1
        exact ⟨_, ts1, s1, h1, dCode_mono hm (.refl R) c ts s _ _ (fun _ _ _ e => by obtain ⟨rfl, rfl, rfl⟩ := e; simp only [hi, if_false]; exact ⟨rfl, rfl, rfl⟩) h2⟩
    | _ => exact ⟨_, ts1, s1, h1, dCode_mono hm (.refl R) c ts s _ _ (fun _ _ _ e => by obtain ⟨rfl, rfl, rfl⟩ := e; exact ⟨rfl, rfl, rfl⟩) h2⟩
  | .loop c, ts, s, K, h => by
    simp only [dCode] at h ⊢
    obtain ⟨r, h1, h2⟩ := hd _ _ (by exact hmd) h
    exact ⟨_, _, _, h1, hm _ _ _ (fun r' e => by subst e; exact ⟨rfl, rfl, rfl⟩) h2⟩
  | .scope c, ts, s, K, h => by
    simp only [dCode] at h ⊢
    obtain ⟨r, h1, h2⟩ := hd _ _ (by exact hmd) h
    exact ⟨_, _, _, h1, hm _ _ _ (fun r' e => by subst e; exact ⟨rfl, rfl, rfl⟩) h2⟩
  | .rangeFunc f params assign body, ts, s, K, h => by
    simp only [dCode] at h ⊢
    split at h
    · obtain ⟨r, h1, h2⟩ := hd _ _ (by exact hmd) h
      obtain ⟨x, ts', s', h3, h4⟩ := dEnd_det h1
      exact ⟨_, _, _, h3, hm _ _ _ (fun r' e => by subst e; exact h4) h2⟩
    · obtain ⟨r, h1, h2⟩ := hd _ _ (by exact hmd) h
      obtain ⟨x, ts', s', h3, h4⟩ := dEnd_det h1
      exact ⟨_, _, _, h3, hm _ _ _ (fun r' e => by subst e; exact h4) h2⟩
    · exact h.elim'

theorem leaveD_det {P : Program} {fn : Func} {ts : List D} {s : St} {Q : Res → Prop} (h : leaveD P fn ts s Q) : ∃ r, Q r ∧ leaveD P fn ts s (· = r) := by
  unfold leaveD at h ⊢
  split at h
  · exact ⟨_, h, rfl⟩
  · exact h.elim'

theorem step_det (hm : MonoR R) (hd : DetR R) {c : Cl} {Q : Res → Prop} (hc : c.det = true) (h : step T R c Q) : ∃ r, Q r ∧ step T R c (· = r) := by
  cases c with
  | call det f args s =>
    have hc : det = true := hc
    subst hc
    simp only [step] at h ⊢
    split at h
    · split at h
      · obtain ⟨e, ts1, s1, h1, h2⟩ := dCode_det hm hd rfl _ _ _ _ h
        cases e with
        | normal =>
          obtain ⟨r, h3, h4⟩ := leaveD_det h1
          exact ⟨r, h3, dCode_mono hm (.refl R) _ _ _ _ _ (fun _ _ _ e => by obtain ⟨rfl, rfl, rfl⟩ := e; exact h4) h2⟩
        | ret =>
          obtain ⟨r, h3, h4⟩ := leaveD_det h1
          exact ⟨r, h3, dCode_mono hm (.refl R) _ _ _ _ _ (fun _ _ _ e => by obtain ⟨rfl, rfl, rfl⟩ := e; exact h4) h2⟩
        | _ => exact h1.elim'
      · exact h.elim'
    · exact h.elim'
  | loop md body ts s =>
    have hc : md.det = true := hc
    simp only [step] at h ⊢
    obtain ⟨e, ts1, s1, h1, h2⟩ := dCode_det hm hd hc _ _ _ _ h
    cases e with
    | normal =>
      obtain ⟨r, h3, h4⟩ := hd _ _ (by exact hc) h1
      exact ⟨r, h3, dCode_mono hm (.refl R) _ _ _ _ _ (fun _ _ _ e => by obtain ⟨rfl, rfl, rfl⟩ := e; exact h4) h2⟩
    | _ => exact ⟨_, h1, dCode_mono hm (.refl R) _ _ _ _ _ (fun _ _ _ e => by obtain ⟨rfl, rfl, rfl⟩ := e; rfl) h2⟩
  | scope md body rest ts s =>
    have hc : md.det = true := hc
    simp only [step] at h ⊢
    obtain ⟨e, ts1, s1, h1, h2⟩ := dCode_det hm hd hc _ _ _ _ h
    cases e with
    | goto l =>
      cases hfl : findLabel body l with
      | some r0 =>
        simp only [hfl] at h1
        obtain ⟨r, h3, h4⟩ := hd _ _ (by exact hc) h1
        exact ⟨r, h3, dCode_mono hm (.refl R) _ _ _ _ _ (fun _ _ _ e => by obtain ⟨rfl, rfl, rfl⟩ := e; simp only [hfl]; exact h4) h2⟩
      | none =>
        simp only [hfl] at h1
        exact ⟨_, h1, dCode_mono hm (.refl R) _ _ _ _ _ (fun _ _ _ e => by obtain ⟨rfl, rfl, rfl⟩ := e; simp only [hfl]) h2⟩
    | _ => exact ⟨_, h1, dCode_mono hm (.refl R) _ _ _ _ _ (fun _ _ _ e => by obtain ⟨rfl, rfl, rfl⟩ := e; rfl) h2⟩
  | round det l args s =>
    have hc : det = true := hc
    subst hc
    simp only [step] at h ⊢
    split at h
    · split at h
      · rename_i hcc
        simp only [hcc, and_self, if_true]
        obtain ⟨e, ts1, s1, h1, h2⟩ := dCode_det hm hd rfl _ _ _ _ h
        cases e with
        | normal =>
          simp only at h1
          split at h1
          · rename_i hob
            obtain ⟨e, ts2, s2, h3, h4⟩ := dCode_det hm hd rfl _ _ _ _ h1
            split at h3
            · rename_i hob2
              cases e <;> exact ⟨_, h3, dCode_mono hm (.refl R) _ _ _ _ _ (fun _ _ _ e => by
                obtain ⟨rfl, rfl, rfl⟩ := e
                simp only [hob]
                exact dCode_mono hm (.refl R) _ _ _ _ _ (fun _ _ _ e => by obtain ⟨rfl, rfl, rfl⟩ := e; simp only [hob2]) h4) h2⟩
            · exact h3.elim
          · exact h1.elim
        | _ => exact h1.elim
      · exact h.elim
    · exact h.elim

end
end Go.DI

/-
  Operations that touch different things come in either order.
-/
namespace Go.DI
open Go

inductive Eff where
  | none
  | cells (id off : Nat) (vs : List D)
  | obj (id : Nat) (ob : Ob)
  | buf (id : Nat) (b : Buf)
  | addO (ob : Ob)
  | addB (b : Buf)

def Eff.app : Eff → St → St
  | .none, s => s
  | .cells id off vs, s => match s.obs[id]? with
    | some (.cells cs t) => s.set id (.cells (fillL cs off vs) t)
    | _ => s
  | .obj id ob, s => s.set id ob
  | .buf id b, s => { s with bufs := s.bufs.set id b }
  | .addO ob, s => s.add ob
  | .addB b, s => { s with bufs := s.bufs ++ [b] }

inductive Vw where
  | none
  | cells (id lo hi : Nat)
  | obj (id : Nat)
  | objs (ids : List Nat)
  | buf (id : Nat)
  | olen
  | blen

def Vw.same : Vw → St → St → Prop
  | .none, _, _ => True
  | .cells id lo hi, s, s' => ∃ cs cs' t, s.obs[id]? = some (.cells cs t) ∧ s'.obs[id]? = some (.cells cs' t) ∧ cs.length = cs'.length ∧ ∀ j, lo ≤ j → j < hi → cs[j]? = cs'[j]?
  | .obj id, s, s' => ∃ ob, s.obs[id]? = some ob ∧ s'.obs[id]? = some ob
  | .objs ids, s, s' => ∀ id ∈ ids, ∃ ob, s.obs[id]? = some ob ∧ s'.obs[id]? = some ob
  | .buf id, s, s' => ∃ b, s.bufs[id]? = some b ∧ s'.bufs[id]? = some b
  | .olen, s, s' => s.obs.length = s'.obs.length
  | .blen, s, s' => s.bufs.length = s'.bufs.length

theorem fillL_len : ∀ (vs : List D) (cs : List D) (off : Nat), (fillL cs off vs).length = cs.length
  | [], cs, off => rfl
  | v :: vs, cs, off => by simp only [fillL]; rw [fillL_len vs]; simp

theorem fillL_get : ∀ (vs : List D) (cs : List D) (off j : Nat), j < off ∨ off + vs.length ≤ j → (fillL cs off vs)[j]? = cs[j]?
  | [], cs, off, j, _ => rfl
  | v :: vs, cs, off, j, h => by
    simp only [fillL]
    simp only [List.length_cons] at h
    rw [fillL_get vs _ _ j (by omega), List.getElem?_set_ne (by omega)]

theorem fillL_comm (vs : List D) : ∀ (us : List D) (cs : List D) (a b : Nat), a + vs.length ≤ b ∨ b + us.length ≤ a → fillL (fillL cs a vs) b us = fillL (fillL cs b us) a vs := by
  have one : ∀ (us : List D) (cs : List D) (a b : Nat) (v : D), a < b ∨ b + us.length ≤ a → (fillL cs b us).set a v = fillL (cs.set a v) b us := by
    intro us
    induction us with
    | nil => intro cs a b v _; rfl
    | cons u us ih =>
      intro cs a b v h
      simp only [fillL, List.length_cons] at h ⊢
      rw [ih _ _ _ _ (by omega), List.set_comm _ _ (by omega)]
  induction vs with
  | nil => intro us cs a b _; rfl
  | cons v vs ih =>
    intro us cs a b h
    simp only [fillL, List.length_cons] at h ⊢
    rw [ih us _ _ _ (by omega), one us cs a b v (by omega)]

/-! ### stability -/

/-- what a view sees stands when the effect comes behind -/
def okF : Vw → Eff → Prop
  | .cells id lo hi, .cells j off vs => id ≠ j ∨ hi ≤ off ∨ off + vs.length ≤ lo
  | .cells id _ _, .obj j _ => id ≠ j
  | .obj id, .cells j _ _ | .obj id, .obj j _ => id ≠ j
  | .objs ids, .cells j _ _ | .objs ids, .obj j _ => j ∉ ids
  | .buf id, .buf j _ => id ≠ j
  | .olen, .addO _ => False
  | .blen, .addB _ => False
  | _, _ => True

theorem get_set_ne {s : St} {id j : Nat} {ob : Ob} (h : id ≠ j) : (s.set j ob).obs[id]? = s.obs[id]? := by
  simp only [St.set]; rw [List.getElem?_set_ne (Ne.symm h)]

theorem cells_app {s : St} {id j off : Nat} {vs : List D} (h : id ≠ j) : (Eff.app (.cells j off vs) s).obs[id]? = s.obs[id]? := by
  simp only [Eff.app]
  split
  · exact get_set_ne h
  · rfl

theorem cells_bufs {s : St} {j off : Nat} {vs : List D} : (Eff.app (.cells j off vs) s).bufs = s.bufs := by
  simp only [Eff.app]; split <;> rfl
theorem cells_olen {s : St} {j off : Nat} {vs : List D} : (Eff.app (.cells j off vs) s).obs.length = s.obs.length := by
  simp only [Eff.app]; split <;> simp [St.set]

/-- the effect leaves what the view sees -/
theorem stab {v : Vw} {e : Eff} {s : St} (h : okF v e) (hv : v.same s s) : v.same s (e.app s) := by
  cases v with
  | none => trivial
  | cells id lo hi =>
    obtain ⟨cs, cs', t, h1, _, _, _⟩ := hv
    cases e with
    | none => exact ⟨cs, cs, t, h1, h1, rfl, fun _ _ _ => rfl⟩
    | buf j b => exact ⟨cs, cs, t, h1, h1, rfl, fun _ _ _ => rfl⟩
    | addB b => exact ⟨cs, cs, t, h1, h1, rfl, fun _ _ _ => rfl⟩
    | addO ob => exact ⟨cs, cs, t, h1, get_append_of h1 _, rfl, fun _ _ _ => rfl⟩
    | obj j ob => exact ⟨cs, cs, t, h1, by show (s.set j ob).obs[id]? = _; rw [get_set_ne h, h1], rfl, fun _ _ _ => rfl⟩
    | cells j off vs =>
      by_cases hij : id = j
      · subst hij
        have h : hi ≤ off ∨ off + vs.length ≤ lo := by
          rcases h with h | h
          · exact (h rfl).elim
          · exact h
        refine ⟨cs, fillL cs off vs, t, h1, ?_, (fillL_len vs cs off).symm, fun k hk1 hk2 => (fillL_get vs cs off k (by omega)).symm⟩
        simp only [Eff.app, h1, St.set]
        rw [List.getElem?_set_self (List.getElem?_eq_some_iff.1 h1).1]
      · exact ⟨cs, cs, t, h1, by rw [cells_app hij, h1], rfl, fun _ _ _ => rfl⟩
  | obj id =>
    obtain ⟨ob, h1, _⟩ := hv
    cases e with
    | none => exact ⟨ob, h1, h1⟩
    | buf j b => exact ⟨ob, h1, h1⟩
    | addB b => exact ⟨ob, h1, h1⟩
    | addO ob' => exact ⟨ob, h1, get_append_of h1 _⟩
    | obj j ob' => exact ⟨ob, h1, by show (s.set j ob').obs[id]? = _; rw [get_set_ne h, h1]⟩
    | cells j off vs => exact ⟨ob, h1, by rw [cells_app h, h1]⟩
  | objs ids =>
    intro id hid
    obtain ⟨ob, h1, _⟩ := hv id hid
    cases e with
    | none => exact ⟨ob, h1, h1⟩
    | buf j b => exact ⟨ob, h1, h1⟩
    | addB b => exact ⟨ob, h1, h1⟩
    | addO ob' => exact ⟨ob, h1, get_append_of h1 _⟩
    | obj j ob' => exact ⟨ob, h1, by show (s.set j ob').obs[id]? = _; rw [get_set_ne (show id ≠ j from fun e => h (e ▸ hid)), h1]⟩
    | cells j off vs => exact ⟨ob, h1, by rw [cells_app (show id ≠ j from fun e => h (e ▸ hid)), h1]⟩
  | buf id =>
    obtain ⟨b, h1, _⟩ := hv
    cases e with
    | none => exact ⟨b, h1, h1⟩
    | buf j b' => exact ⟨b, h1, by simp only [Eff.app]; rw [List.getElem?_set_ne (Ne.symm h), h1]⟩
    | addB b' => exact ⟨b, h1, get_append_of h1 _⟩
    | addO ob' => exact ⟨b, h1, h1⟩
    | obj j ob' => exact ⟨b, h1, h1⟩
    | cells j off vs => exact ⟨b, h1, by rw [cells_bufs, h1]⟩
  | olen =>
    cases e with
    | addO ob => exact h.elim
    | cells j off vs => exact cells_olen.symm
    | obj j ob => simp [Vw.same, Eff.app, St.set]
    | _ => rfl
  | blen =>
    cases e with
    | addB ob => exact h.elim
    | cells j off vs => simp only [Vw.same]; rw [cells_bufs]
    | buf j b => simp [Vw.same, Eff.app]
    | _ => rfl

/-- the same, seen from behind; a new thing is not what the view sees -/
def okB (s : St) : Vw → Eff → Prop
  | .cells id _ _, .addO _ | .obj id, .addO _ => s.obs.length ≠ id
  | .objs ids, .addO _ => s.obs.length ∉ ids
  | .buf id, .addB _ => s.bufs.length ≠ id
  | v, e => okF v e

theorem get_add_ne {s : St} {id : Nat} {ob : Ob} (h : s.obs.length ≠ id) : (s.add ob).obs[id]? = s.obs[id]? := by
  simp only [St.add]
  by_cases hi : id < s.obs.length
  · rw [List.getElem?_append_left hi]
  · rw [List.getElem?_append_right (by omega), List.getElem?_eq_none (by simp; omega), List.getElem?_eq_none (by omega)]

theorem stabB {v : Vw} {e : Eff} {s : St} (h : okB s v e) (hv : v.same (e.app s) (e.app s)) : v.same (e.app s) s := by
  cases v with
  | none => trivial
  | cells id lo hi =>
    obtain ⟨cs, cs', t, h1, _, _, _⟩ := hv
    cases e with
    | none => exact ⟨cs, cs, t, h1, h1, rfl, fun _ _ _ => rfl⟩
    | buf j b => exact ⟨cs, cs, t, h1, h1, rfl, fun _ _ _ => rfl⟩
    | addB b => exact ⟨cs, cs, t, h1, h1, rfl, fun _ _ _ => rfl⟩
    | addO ob => exact ⟨cs, cs, t, h1, by rw [← get_add_ne h]; exact h1, rfl, fun _ _ _ => rfl⟩
    | obj j ob => exact ⟨cs, cs, t, h1, by rw [← get_set_ne (ob := ob) h]; exact h1, rfl, fun _ _ _ => rfl⟩
    | cells j off vs =>
      by_cases hij : id = j
      · subst hij
        have h : hi ≤ off ∨ off + vs.length ≤ lo := by
          rcases h with h | h
          · exact (h rfl).elim
          · exact h
        have h1' := h1
        simp only [Eff.app] at h1'
        split at h1'
        · rename_i cs0 t0 h0
          simp only [St.set] at h1'
          rw [List.getElem?_set_self (List.getElem?_eq_some_iff.1 h0).1] at h1'
          injection h1' with h1'; injection h1' with e1 e2
          subst e1; subst e2
          exact ⟨_, cs0, t0, h1, h0, fillL_len vs cs0 off, fun k hk1 hk2 => fillL_get vs cs0 off k (by omega)⟩
        · exact ⟨cs, cs, t, h1, h1', rfl, fun _ _ _ => rfl⟩
      · exact ⟨cs, cs, t, h1, by rw [← cells_app hij]; exact h1, rfl, fun _ _ _ => rfl⟩
  | obj id =>
    obtain ⟨ob, h1, _⟩ := hv
    cases e with
    | none => exact ⟨ob, h1, h1⟩
    | buf j b => exact ⟨ob, h1, h1⟩
    | addB b => exact ⟨ob, h1, h1⟩
    | addO ob' => exact ⟨ob, h1, by rw [← get_add_ne h]; exact h1⟩
    | obj j ob' => exact ⟨ob, h1, by rw [← get_set_ne (ob := ob') h]; exact h1⟩
    | cells j off vs => exact ⟨ob, h1, by rw [← cells_app h]; exact h1⟩
  | objs ids =>
    intro id hid
    obtain ⟨ob, h1, _⟩ := hv id hid
    cases e with
    | none => exact ⟨ob, h1, h1⟩
    | buf j b => exact ⟨ob, h1, h1⟩
    | addB b => exact ⟨ob, h1, h1⟩
    | addO ob' => exact ⟨ob, h1, by rw [← get_add_ne (fun e => h (e ▸ hid))]; exact h1⟩
    | obj j ob' => exact ⟨ob, h1, by rw [← get_set_ne (ob := ob') (show id ≠ j from fun e => h (e ▸ hid))]; exact h1⟩
    | cells j off vs => exact ⟨ob, h1, by rw [← cells_app (show id ≠ j from fun e => h (e ▸ hid))]; exact h1⟩
  | buf id =>
    obtain ⟨b, h1, _⟩ := hv
    cases e with
    | none => exact ⟨b, h1, h1⟩
    | buf j b' =>
      refine ⟨b, h1, ?_⟩
      simp only [Eff.app] at h1
      rwa [List.getElem?_set_ne (Ne.symm h)] at h1
    | addB b' =>
      refine ⟨b, h1, ?_⟩
      simp only [Eff.app] at h1
      rcases get_append_one h1 with h1 | ⟨h2, _⟩
      · exact h1
      · exact (h h2.symm).elim
    | addO ob' => exact ⟨b, h1, h1⟩
    | obj j ob' => exact ⟨b, h1, h1⟩
    | cells j off vs => exact ⟨b, h1, by rw [cells_bufs] at h1; exact h1⟩
  | olen =>
    cases e with
    | addO ob => exact h.elim
    | cells j off vs => exact cells_olen
    | obj j ob => simp [Vw.same, Eff.app, St.set]
    | _ => rfl
  | blen =>
    cases e with
    | addB ob => exact h.elim
    | cells j off vs => simp only [Vw.same]; rw [cells_bufs]
    | buf j b => simp [Vw.same, Eff.app]
    | _ => rfl

/-! ### effects commute -/

def okE (s : St) : Eff → Eff → Prop
  | .cells i a vs, .cells j b us => i ≠ j ∨ a + vs.length ≤ b ∨ b + us.length ≤ a
  | .cells i _ _, .obj j _ | .obj i _, .cells j _ _ | .obj i _, .obj j _ => i ≠ j
  | .cells i _ _, .addO _ | .obj i _, .addO _ | .addO _, .cells i _ _ | .addO _, .obj i _ => i < s.obs.length
  | .buf i _, .buf j _ => i ≠ j
  | .buf i _, .addB _ | .addB _, .buf i _ => i < s.bufs.length
  | .addO _, .addO _ | .addB _, .addB _ => False
  | _, _ => True

theorem okE.symm {s : St} {e f : Eff} (h : okE s e f) : okE s f e := by
  cases e <;> cases f <;> simp only [okE] at h ⊢ <;> first | exact h | exact Ne.symm h | (rcases h with h | h; exact .inl (Ne.symm h); exact .inr h.symm)

theorem set_set {s : St} {i j : Nat} {a b : Ob} (h : i ≠ j) : (s.set i a).set j b = (s.set j b).set i a := by
  simp only [St.set]; rw [List.set_comm _ _ h]

theorem set_add {s : St} {i : Nat} {a b : Ob} (h : i < s.obs.length) : (s.set i a).add b = (s.add b).set i a := by
  simp only [St.set, St.add]; rw [List.set_append_left _ _ h]

theorem cells_comm_set {s : St} {i off j : Nat} {vs : List D} {ob : Ob} (h : i ≠ j) : Eff.app (.cells i off vs) (s.set j ob) = (Eff.app (.cells i off vs) s).set j ob := by
  simp only [Eff.app]
  rw [get_set_ne h]
  split
  · exact set_set (Ne.symm h)
  · rfl

theorem app_comm {s : St} {e f : Eff} (h : okE s e f) : e.app (f.app s) = f.app (e.app s) := by
  cases e with
  | none => rfl
  | cells i a vs =>
    cases f with
    | none => rfl
    | cells j b us =>
      by_cases hij : i = j
      · subst hij
        have h : a + vs.length ≤ b ∨ b + us.length ≤ a := by
          rcases h with h | h
          · exact (h rfl).elim
          · exact h
        simp only [Eff.app]
        cases hg : s.obs[i]? with
        | none => simp [hg]
        | some ob =>
          have hi := (List.getElem?_eq_some_iff.1 hg).1
          cases ob with
          | cells cs t =>
            simp only [St.set, List.getElem?_set_self hi, List.set_set]
            rw [fillL_comm vs us cs a b h]
          | _ => simp [hg]
      · simp only [Eff.app]
        cases hg : s.obs[j]? with
        | none =>
          cases hg' : s.obs[i]? with
          | none => simp [hg]
          | some ob' => cases ob' <;> simp [hg, get_set_ne (Ne.symm hij)]
        | some ob =>
          cases ob with
          | cells cs t =>
            simp only [get_set_ne hij]
            cases hg' : s.obs[i]? with
            | none => simp [hg]
            | some ob' =>
              cases ob' with
              | cells cs' t' => simp only [get_set_ne (Ne.symm hij), hg]; exact set_set (Ne.symm hij)
              | _ => simp [hg]
          | _ =>
            cases hg' : s.obs[i]? with
            | none => simp [hg]
            | some ob' => cases ob' <;> simp [hg, get_set_ne (Ne.symm hij)]
    | obj j ob => exact cells_comm_set h
    | buf j b =>
      simp only [Eff.app]
      split <;> rfl
    | addB b =>
      simp only [Eff.app]
      split <;> rfl
    | addO ob =>
      have h : i < s.obs.length := h
      simp only [Eff.app]
      have : (s.add ob).obs[i]? = s.obs[i]? := get_add_ne (by omega)
      rw [this]
      split
      · exact (set_add h).symm
      · rfl
  | obj i a =>
    cases f with
    | none => rfl
    | cells j b us => exact (cells_comm_set (Ne.symm h)).symm
    | obj j ob => exact set_set (Ne.symm h)
    | buf j b => rfl
    | addB b => rfl
    | addO ob => exact (set_add h).symm
  | buf i a =>
    cases f with
    | buf j b => simp only [Eff.app]; rw [List.set_comm _ _ (Ne.symm h)]
    | addB b => simp only [Eff.app]; rw [List.set_append_left _ _ h]
    | cells j b us => simp only [Eff.app]; split <;> rfl
    | _ => rfl
  | addO a =>
    cases f with
    | addO ob => exact h.elim
    | obj j ob => exact set_add h
    | cells j off us =>
      have h : j < s.obs.length := h
      simp only [Eff.app]
      have : (s.add a).obs[j]? = s.obs[j]? := get_add_ne (by omega)
      rw [this]
      split
      · exact set_add h
      · rfl
    | _ => rfl
  | addB a =>
    cases f with
    | addB ob => exact h.elim
    | buf j b => simp only [Eff.app]; rw [List.set_append_left _ _ h]
    | cells j off us => simp only [Eff.app]; split <;> rfl
    | _ => rfl

end Go.DI

/-
  What an operation looks at and turns.
-/
namespace Go.DI
open Go

section
variable {T : Par} {R : RT} {o : Oper}

def Fires (T : Par) (R : RT) (o : Oper) (m : Mop) (s : St) (d : D) (s' : St) : Prop := runR T R true o (exec T.P m s) s (At d s')

/-- view and effect fit a footprint -/
def Fits (s : St) : Fp → Vw → Eff → Prop
  | .pure, v, e => v = .none ∧ e = .none
  | .rd id lo hi, v, e => v = .cells id lo hi ∧ e = .none
  | .wr id lo hi, v, e => v = .cells id lo lo ∧ ∃ vs, e = .cells id lo vs ∧ hi = lo + vs.length
  | .rdo id, v, e => v = .obj id ∧ e = .none
  | .wro id, v, e => v = .obj id ∧ (e = .none ∨ ∃ ob, e = .obj id ob)
  | .wrb id, v, e => v = .buf id ∧ ∃ b, e = .buf id b
  | .al n, v, e => v = .olen ∧ n = s.obs.length ∧ ∃ ob, e = .addO ob
  | .alb n, v, e => v = .blen ∧ n = s.bufs.length ∧ (e = .none ∨ ∃ b, e = .addB b)
  | .rdl ids, v, e => v = .objs ids ∧ e = .none
  | .bar, _, _ => False

structure Spec (T : Par) (R : RT) (o : Oper) (m : Mop) (s : St) (d : D) (s' : St) (f : Fp) : Prop where
  ex : ∃ v e, s' = e.app s ∧ Fits s f v e ∧ v.same s s ∧ ∀ t, v.same s t → Fires T R o m t d (e.app t)

theorem fires_val {m : Mop} {s s1 s' : St} {d d1 : D} (he : exec T.P m s = .val d1 s1) (h : Fires T R o m s d s') : d1 = d ∧ s1 = s' := by
  unfold Fires at h; rw [he] at h; exact h

theorem fires_of {m : Mop} {s s' : St} {d : D} (he : exec T.P m s = .val d s') : Fires T R o m s d s' := by
  unfold Fires; rw [he]; exact ⟨rfl, rfl⟩

theorem fires_none {m : Mop} {s s' : St} {d : D} (he : exec T.P m s = .fail) (h : Fires T R o m s d s') : False := by
  unfold Fires at h; rw [he] at h; exact h.elim'

theorem spec_val {s s' : St} {d d0 : D} (h : Fires T R o (.val d0) s d s') : Spec T R o (.val d0) s d s' .pure := by
  obtain ⟨rfl, rfl⟩ := fires_val (d1 := d0) (s1 := s) rfl h
  exact ⟨.none, .none, rfl, ⟨rfl, rfl⟩, trivial, fun t _ => fires_of rfl⟩

theorem drop_take_eq {cs cs' : List D} {off n : Nat} (hl : cs.length = cs'.length) (h : ∀ j, off ≤ j → j < off + n → cs[j]? = cs'[j]?) : (cs.drop off).take n = (cs'.drop off).take n := by
  apply List.ext_getElem?
  intro i
  rw [List.getElem?_take, List.getElem?_take]
  split
  · rw [List.getElem?_drop, List.getElem?_drop]; exact h _ (by omega) (by omega)
  · rfl

theorem spec_load {s s' : St} {d : D} {id off n : Nat} {whole : Bool} (h : Fires T R o (.load id off n whole) s d s') : Spec T R o (.load id off n whole) s d s' (.rd id off (off + if whole then n else 1)) := by
  cases hob : s.obs[id]? with
  | none => exact (fires_none (by simp [exec, hob]) h).elim
  | some ob =>
    cases ob with
    | cells cs t0 =>
      refine ⟨.cells id off (off + if whole then n else 1), .none, ?_, ⟨rfl, rfl⟩, ⟨cs, cs, t0, hob, hob, rfl, fun _ _ _ => rfl⟩, ?_⟩
      · cases whole with
        | true =>
          by_cases hle : off + n ≤ cs.length
          · exact (fires_val (s1 := s) (by simp [exec, hob, hle]; rfl) h).2.symm
          · exact (fires_none (by simp [exec, hob, hle]) h).elim
        | false =>
          cases hc : cs[off]? with
          | none => exact (fires_none (by simp [exec, hob, hc]) h).elim
          | some c => exact (fires_val (s1 := s) (by simp [exec, hob, hc]; rfl) h).2.symm
      · rintro t ⟨cs1, cs2, t1, h1, h2, h3, h4⟩
        rw [hob] at h1; injection h1 with h1; injection h1 with e1 e2; subst e1; subst e2
        cases whole with
        | true =>
          by_cases hle : off + n ≤ cs.length
          · obtain ⟨rfl, _⟩ := fires_val (d1 := mkAgg ((cs.drop off).take n)) (s1 := s) (by simp [exec, hob, hle]) h
            simp only [if_true] at h4
            exact fires_of (by simp [exec, h2, ← h3, hle, drop_take_eq h3 h4, Eff.app])
          · exact (fires_none (by simp [exec, hob, hle]) h).elim
        | false =>
          cases hc : cs[off]? with
          | none => exact (fires_none (by simp [exec, hob, hc]) h).elim
          | some c =>
            obtain ⟨rfl, _⟩ := fires_val (d1 := c) (s1 := s) (by simp [exec, hob, hc]) h
            have := h4 off (Nat.le_refl _) (by simp)
            exact fires_of (by simp [exec, h2, ← this, hc, Eff.app])
    | _ => exact (fires_none (by simp [exec, hob]) h).elim

theorem spec_store {s s' : St} {d : D} {id off : Nat} {vs : List D} (h : Fires T R o (.store id off vs) s d s') : Spec T R o (.store id off vs) s d s' (.wr id off (off + vs.length)) := by
  cases hob : s.obs[id]? with
  | none => exact (fires_none (by simp [exec, hob]) h).elim
  | some ob =>
    cases ob with
    | cells cs t0 =>
      by_cases hle : off + vs.length ≤ cs.length
      · obtain ⟨rfl, rfl⟩ := fires_val (d1 := undefD) (s1 := s.set id (.cells (fillL cs off vs) t0)) (by simp [exec, hob, hle]) h
        refine ⟨.cells id off off, .cells id off vs, by simp [Eff.app, hob], ⟨rfl, vs, rfl, rfl⟩, ⟨cs, cs, t0, hob, hob, rfl, fun _ _ _ => rfl⟩, ?_⟩
        rintro t ⟨cs1, cs2, t1, h1, h2, h3, h4⟩
        rw [hob] at h1; injection h1 with h1; injection h1 with e1 e2; subst e1; subst e2
        exact fires_of (by simp [exec, h2, ← h3, hle, Eff.app])
      · exact (fires_none (by simp [exec, hob, hle]) h).elim
    | _ => exact (fires_none (by simp [exec, hob]) h).elim

theorem spec_alloc {s s' : St} {d : D} {cs : List D} {t0 : TypeId} (h : Fires T R o (.alloc cs t0) s d s') : Spec T R o (.alloc cs t0) s d s' (.al s.obs.length) := by
  obtain ⟨rfl, rfl⟩ := fires_val (d1 := .ptr s.obs.length 0) (s1 := s.add (.cells cs t0)) rfl h
  refine ⟨.olen, .addO (.cells cs t0), rfl, ⟨rfl, rfl, _, rfl⟩, rfl, fun t ht => ?_⟩
  have ht : s.obs.length = t.obs.length := ht
  exact fires_of (by simp [exec, ht, Eff.app])

theorem spec_mkMap {s s' : St} {d : D} (h : Fires T R o .mkMap s d s') : Spec T R o .mkMap s d s' (.al s.obs.length) := by
  obtain ⟨rfl, rfl⟩ := fires_val (d1 := .map s.obs.length) (s1 := s.add (.map [] 0)) rfl h
  refine ⟨.olen, .addO (.map [] 0), rfl, ⟨rfl, rfl, _, rfl⟩, rfl, fun t ht => ?_⟩
  have ht : s.obs.length = t.obs.length := ht
  exact fires_of (by simp [exec, ht, Eff.app])

theorem spec_app {s s' : St} {d : D} {id sz by_ : Nat} {es ys : List Dt} (h : Fires T R o (.app id sz by_ es (.lit ys)) s d s') : Spec T R o (.app id sz by_ es (.lit ys)) s d s' (.wrb id) := by
  cases hb : s.bufs[id]? with
  | none => exact (fires_none (by simp [exec, Src.get, hb]) h).elim
  | some b =>
    by_cases hc : b.fill = es.length ∧ b.sz = sz ∧ (es.length + ys.length) * by_ ≤ limit ∧ es.length + ys.length ≤ limit
    · obtain ⟨rfl, rfl⟩ := fires_val (d1 := .own id sz (es ++ ys)) (s1 := { s with bufs := s.bufs.set id { b with fill := es.length + ys.length } }) (by simp only [exec, Src.get, hb]; rw [if_pos hc]) h
      refine ⟨.buf id, .buf id { b with fill := es.length + ys.length }, rfl, ⟨rfl, _, rfl⟩, ⟨b, hb, hb⟩, ?_⟩
      rintro t ⟨b', h1, h2⟩
      rw [hb] at h1; injection h1 with h1; subst h1
      exact fires_of (by simp only [exec, Src.get, h2]; rw [if_pos hc]; rfl)
    · exact (fires_none (by simp only [exec, Src.get, hb]; rw [if_neg hc]) h).elim

theorem spec_appNew {s s' : St} {d base : D} {t0 : TypeId} {sz by_ : Nat} {es ys : List Dt} (h : Fires T R o (.appNew t0 sz by_ base es (.lit ys)) s d s') : Spec T R o (.appNew t0 sz by_ base es (.lit ys)) s d s' (.alb s.bufs.length) := by
  cases hy : ys.isEmpty with
  | true =>
    obtain ⟨rfl, rfl⟩ := fires_val (d1 := base) (s1 := s) (by simp only [exec, Src.get, hy, if_true]) h
    exact ⟨.blen, .none, rfl, ⟨rfl, rfl, .inl rfl⟩, rfl, fun t ht => fires_of (by simp only [exec, Src.get, hy, if_true]; rfl)⟩
  | false =>
    by_cases hc : (es.length + ys.length) * by_ ≤ limit ∧ es.length + ys.length ≤ limit
    · obtain ⟨rfl, rfl⟩ := fires_val (d1 := .own s.bufs.length sz (es ++ ys)) (s1 := { s with bufs := s.bufs ++ [⟨sz, t0, es.length + ys.length⟩] }) (by simp only [exec, Src.get, hy, Bool.false_eq_true, if_false]; rw [if_pos hc]) h
      refine ⟨.blen, .addB ⟨sz, t0, es.length + ys.length⟩, rfl, ⟨rfl, rfl, .inr ⟨_, rfl⟩⟩, rfl, fun t ht => ?_⟩
      have ht : s.bufs.length = t.bufs.length := ht
      exact fires_of (by simp only [exec, Src.get, hy, Bool.false_eq_true, if_false]; rw [if_pos hc, ht]; rfl)
    · exact (fires_none (by simp only [exec, Src.get, hy, Bool.false_eq_true, if_false]; rw [if_neg hc]) h).elim

theorem spec_mkBuf {s s' : St} {d : D} {t0 : TypeId} {es : List Dt} (h : Fires T R o (.mkBuf t0 es) s d s') : Spec T R o (.mkBuf t0 es) s d s' (.alb s.bufs.length) := by
  obtain ⟨rfl, rfl⟩ := fires_val (d1 := .own s.bufs.length 1 es) (s1 := { s with bufs := s.bufs ++ [⟨1, t0, es.length⟩] }) rfl h
  refine ⟨.blen, .addB ⟨1, t0, es.length⟩, rfl, ⟨rfl, rfl, .inr ⟨_, rfl⟩⟩, rfl, fun t ht => ?_⟩
  have ht : s.bufs.length = t.bufs.length := ht
  exact fires_of (by simp [exec, ht, Eff.app])

/-- what only looks at one object -/
theorem spec_rdo {s s' : St} {d : D} {id : Nat} {m : Mop} (hex : ∀ t u : St, t.obs[id]? = u.obs[id]? → ∀ d t', exec T.P m t = .val d t' → t' = t ∧ exec T.P m u = .val d u)
    (hval : ∀ t, (∃ d t', exec T.P m t = .val d t') ∨ exec T.P m t = .fail) (hsome : s.obs[id]? = none → exec T.P m s = .fail)
    (h : Fires T R o m s d s') : Spec T R o m s d s' (.rdo id) := by
  rcases hval s with ⟨d1, t1, he⟩ | he
  · obtain ⟨rfl, rfl⟩ := fires_val he h
    obtain ⟨rfl, _⟩ := hex s s rfl _ _ he
    cases hob : t1.obs[id]? with
    | none => rw [hsome hob] at he; cases he
    | some ob =>
      refine ⟨.obj id, .none, rfl, ⟨rfl, rfl⟩, ⟨ob, hob, hob⟩, ?_⟩
      rintro t ⟨ob', h1, h2⟩
      exact fires_of (hex _ t (by rw [h1, h2]) _ _ he).2
  · exact (fires_none he h).elim

/-- what turns one object -/
theorem spec_wro {s s' : St} {d : D} {id : Nat} {m : Mop} (hex : ∀ t u : St, t.obs[id]? = u.obs[id]? → ∀ d t', exec T.P m t = .val d t' → (t' = t ∧ exec T.P m u = .val d u) ∨ ∃ ob, t' = t.set id ob ∧ exec T.P m u = .val d (u.set id ob))
    (hval : ∀ t, (∃ d t', exec T.P m t = .val d t') ∨ exec T.P m t = .fail) (hsome : s.obs[id]? = none → exec T.P m s = .fail)
    (h : Fires T R o m s d s') : Spec T R o m s d s' (.wro id) := by
  rcases hval s with ⟨d1, t1, he⟩ | he
  · obtain ⟨rfl, rfl⟩ := fires_val he h
    cases hob : s.obs[id]? with
    | none => rw [hsome hob] at he; cases he
    | some ob0 =>
      rcases hex s s rfl _ _ he with ⟨rfl, _⟩ | ⟨ob, rfl, _⟩
      · refine ⟨.obj id, .none, rfl, ⟨rfl, .inl rfl⟩, ⟨ob0, hob, hob⟩, ?_⟩
        rintro t ⟨ob', h1, h2⟩
        rcases hex _ t (by rw [h1, h2]) _ _ he with ⟨_, h3⟩ | ⟨ob1, h3, h4⟩
        · exact fires_of h3
        · have hb : ob1 = ob0 := by
            have := congrArg (fun x : St => x.obs[id]?) h3
            simp only [St.set] at this
            rw [List.getElem?_set_self (List.getElem?_eq_some_iff.1 hob).1, hob] at this
            injection this with this; exact this.symm
          subst hb
          have hsame : t.set id ob1 = t := by
            rw [hob] at h1; injection h1 with h1; subst h1
            obtain ⟨hlt, hg⟩ := List.getElem?_eq_some_iff.1 h2
            simp only [St.set]; rw [← hg, List.set_getElem_self]
          rw [hsame] at h4
          exact fires_of h4
      · refine ⟨.obj id, .obj id ob, rfl, ⟨rfl, .inr ⟨ob, rfl⟩⟩, ⟨ob0, hob, hob⟩, ?_⟩
        rintro t ⟨ob', h1, h2⟩
        rcases hex _ t (by rw [h1, h2]) _ _ he with ⟨h5, h3⟩ | ⟨ob1, h3, h4⟩
        · have hb : ob = ob0 := by
            have := congrArg (fun x : St => x.obs[id]?) h5
            simp only [St.set] at this
            rw [List.getElem?_set_self (List.getElem?_eq_some_iff.1 hob).1, hob] at this
            injection this with this
          subst hb
          have hsame : t.set id ob = t := by
            rw [hob] at h1; injection h1 with h1; subst h1
            obtain ⟨hlt, hg⟩ := List.getElem?_eq_some_iff.1 h2
            simp only [St.set]; rw [← hg, List.set_getElem_self]
          show Fires T R o m t d1 (t.set id ob)
          rw [hsame]
          exact fires_of h3
        · have hb : ob1 = ob := by
            have := congrArg (fun x : St => x.obs[id]?) h3
            simp only [St.set] at this
            rw [List.getElem?_set_self (List.getElem?_eq_some_iff.1 hob).1, List.getElem?_set_self (List.getElem?_eq_some_iff.1 hob).1] at this
            injection this with this; exact this.symm
          subst hb
          exact fires_of h4
  · exact (fires_none he h).elim

end
end Go.DI

/-
  Each operation's view and effect; two operations in the other order.
-/
namespace Go.DI
open Go

section
variable {T : Par} {R : RT} {o : Oper}

theorem spec_lookup {s s' : St} {d z : D} {id : Nat} {kt : TypeId} {k : Dt} {ok : Bool} (h : Fires T R o (.lookup id kt k z ok) s d s') : Spec T R o (.lookup id kt k z ok) s d s' (.rdo id) := by
  refine spec_rdo ?_ ?_ ?_ h
  · intro t u htu d t' he
    simp only [exec] at he ⊢
    rw [← htu]; clear htu
    generalize hv1 : (fun e : Ent => if ok = true then D.tup [e.val, .pv (.bool true)] else e.val) = f1 at *
    generalize hv2 : (if ok = true then D.tup [z, .pv (.bool false)] else z) = z2 at *
    split at he
    · split at he
      · injection he with e1 e2; exact ⟨e2.symm, by rw [← e1]⟩
      · injection he with e1 e2; exact ⟨e2.symm, by rw [← e1]⟩
      · cases he
    · cases he
  · intro t
    simp only [exec]
    split
    · split
      · exact .inl ⟨_, _, rfl⟩
      · exact .inl ⟨_, _, rfl⟩
      · exact .inr rfl
    · exact .inr rfl
  · intro hn; simp [exec, hn]

theorem spec_mlen {s s' : St} {d : D} {id : Nat} (h : Fires T R o (.mlen id) s d s') : Spec T R o (.mlen id) s d s' (.rdo id) := by
  refine spec_rdo ?_ ?_ ?_ h
  · intro t u htu d t' he
    simp only [exec] at he ⊢
    rw [← htu]; clear htu
    (repeat' split at he) <;> first | (injection he with e1 e2; subst e1; subst e2; refine ⟨rfl, ?_⟩; simp only [*]; done) | cases he
  · intro t
    simp only [exec]
    repeat' split
    all_goals first | exact .inr rfl | exact .inl ⟨_, _, rfl⟩
  · intro hn; simp [exec, hn]

theorem spec_mput {s s' : St} {d v : D} {id : Nat} {kt : TypeId} {k : Dt} (h : Fires T R o (.mput id kt k v) s d s') : Spec T R o (.mput id kt k v) s d s' (.wro id) := by
  refine spec_wro ?_ ?_ ?_ h
  · intro t u htu d t' he
    simp only [exec] at he ⊢
    rw [← htu]; clear htu
    (repeat' split at he) <;> first | (injection he with e1 e2; subst e1; subst e2; refine .inr ⟨_, rfl, ?_⟩; simp only [*]; done) | cases he
  · intro t
    simp only [exec]
    repeat' split
    all_goals first | exact .inr rfl | exact .inl ⟨_, _, rfl⟩
  · intro hn; simp [exec, hn]

theorem spec_mentry {s s' : St} {d v : D} {id : Nat} {kt : TypeId} {k : Dt} (h : Fires T R o (.mentry id kt k v) s d s') : Spec T R o (.mentry id kt k v) s d s' (.wro id) := by
  refine spec_wro ?_ ?_ ?_ h
  · intro t u htu d t' he
    simp only [exec] at he ⊢
    rw [← htu]; clear htu
    (repeat' split at he) <;> first | (injection he with e1 e2; subst e1; subst e2; refine .inr ⟨_, rfl, ?_⟩; simp only [*]; done) | cases he
  · intro t
    simp only [exec]
    repeat' split
    all_goals first | exact .inr rfl | exact .inl ⟨_, _, rfl⟩
  · intro hn; simp [exec, hn]

theorem spec_estore {s s' : St} {d v : D} {id : Nat} {n : Int} (h : Fires T R o (.estore id n v) s d s') : Spec T R o (.estore id n v) s d s' (.wro id) := by
  refine spec_wro ?_ ?_ ?_ h
  · intro t u htu d t' he
    simp only [exec] at he ⊢
    rw [← htu]; clear htu
    (repeat' split at he) <;> first | (injection he with e1 e2; subst e1; subst e2; refine .inr ⟨_, rfl, ?_⟩; simp only [*]; done) | cases he
  · intro t
    simp only [exec]
    repeat' split
    all_goals first | exact .inr rfl | exact .inl ⟨_, _, rfl⟩
  · intro hn; simp [exec, hn]

theorem spec_mdel {s s' : St} {d : D} {id : Nat} {kt : TypeId} {k : Dt} (h : Fires T R o (.mdel id kt k) s d s') : Spec T R o (.mdel id kt k) s d s' (.wro id) := by
  refine spec_wro ?_ ?_ ?_ h
  · intro t u htu d t' he
    simp only [exec] at he ⊢
    rw [← htu]; clear htu
    (repeat' split at he) <;> first | (injection he with e1 e2; subst e1; subst e2; first | (refine .inr ⟨_, rfl, ?_⟩; simp only [*]; done) | (refine .inl ⟨rfl, ?_⟩; simp only [*]; done)) | cases he
  · intro t
    simp only [exec]
    repeat' split
    all_goals first | exact .inr rfl | exact .inl ⟨_, _, rfl⟩
  · intro hn; simp [exec, hn]

theorem isoRes_no {f : FuncId} {s1 s s' : St} {d0 d : D} (hh : T.hand f = false) (h : isoRes T f o s1 d0 s (At d s')) : s' = s ∧ ∀ t, isoRes T f o s1 d0 t (At d t) := by
  unfold isoRes at h ⊢
  simp only [hh] at h ⊢
  cases hx : toDtS s1 d0 with
  | none => simp only [hx] at h; exact h.elim'
  | some x =>
    simp only [hx] at h ⊢
    obtain ⟨rfl, rfl⟩ := h
    exact ⟨rfl, fun t => ⟨rfl, rfl⟩⟩

theorem isoRes_hand {f : FuncId} {s1 s s' : St} {d0 d : D} (h : isoRes T f o s1 d0 s (At d s')) : ∃ e : Eff, s' = e.app s ∧ (e = .none ∨ ∃ b, e = .addB b) ∧ ∀ t : St, s.bufs.length = t.bufs.length → isoRes T f o s1 d0 t (At d (e.app t)) := by
  unfold isoRes at h ⊢
  split at h
  · split at h
    · rename_i b hb
      split at h
      · rename_i hc
        obtain ⟨rfl, rfl⟩ := h
        refine ⟨.addB b, rfl, .inr ⟨b, rfl⟩, fun t ht => ?_⟩
        try simp only [hb]
        rw [if_pos hc, ht]
        exact ⟨rfl, rfl⟩
      · exact h.elim'
    · exact h.elim'
  · split at h
    · rename_i hx
      obtain ⟨rfl, rfl⟩ := h
      refine ⟨.none, rfl, .inl rfl, fun t ht => ?_⟩
      try simp only [hx]
      exact ⟨rfl, rfl⟩
    · exact h.elim'

theorem spec_call (hm : MonoR R) (hd : DetR R) {s s' : St} {d : D} {f : FuncId} {args : List D} (h : Fires T R o (.call f args) s d s') (hb : fpOf T.iso T.hand T.look s (.call f args) ≠ .bar) :
    Spec T R o (.call f args) s d s' (fpOf T.iso T.hand T.look s (.call f args)) := by
  have hun : ∀ t t', Fires T R o (.call f args) t d t' = runR T R true o (.call f args) t (At d t') := fun _ _ => rfl
  rw [hun] at h
  simp only [fpOf] at hb ⊢
  simp only [runR] at h hun
  cases hi : T.iso f with
  | true =>
    simp only [hi, if_true] at h hb hun ⊢
    split at h
    · rename_i xs hx
      simp only [hx] at hun
      obtain ⟨r, h1, h2⟩ := hd _ _ rfl h
      obtain ⟨d0, e1, e2⟩ := ts_one (F := fun d0 r => isoRes T f o r.s d0 s (At d s')) h1
      have hback : ∀ t t', isoRes T f o r.s d0 t (At d t') → Fires T R o (.call f args) t d t' := fun t t' h => by
        rw [hun]
        exact hm _ _ _ (fun r' e => by subst e; rw [e1]; exact h) h2
      cases hh : T.hand f with
      | false =>
        simp only [Bool.false_eq_true, if_false]
        obtain ⟨e3, e4⟩ := isoRes_no hh e2
        exact ⟨.none, .none, e3, ⟨rfl, rfl⟩, trivial, fun t _ => hback t t (e4 t)⟩
      | true =>
        simp only [if_true]
        obtain ⟨e, e3, e4, e5⟩ := isoRes_hand e2
        exact ⟨.blen, e, e3, ⟨rfl, rfl, e4⟩, rfl, fun t ht => hback t _ (e5 t ht)⟩
    · exact h.elim'
  | false =>
    simp only [hi, Bool.false_eq_true, if_false] at h hb hun ⊢
    cases hl : T.look f with
    | false => simp [hl] at hb
    | true =>
      simp only [hl, if_true] at h hun ⊢
      split at h
      · rename_i xs hx
        obtain ⟨r, h1, h2⟩ := hd _ _ rfl h
        have h1 : s' = s ∧ ∀ t, (match r.ts with
            | [.pv x] => if x.scalar then At d t (.pv x) t else Bad o
            | _ => Bad o) := by
          split at h1
          · rename_i x hx
            split at h1
            · rename_i hsc
              obtain ⟨e1, e2⟩ := h1
              exact ⟨e2.symm, fun t => by first | (simp only [hx, hsc, if_true]; exact ⟨e1, rfl⟩) | (rw [if_pos hsc]; exact ⟨e1, rfl⟩)⟩
            · exact h1.elim'
          · exact h1.elim'
        refine ⟨.objs (args.filterMap ptrId?), .none, h1.1, ⟨rfl, rfl⟩, ?_, ?_⟩
        · intro id hid
          obtain ⟨x, hx1, hx2⟩ := List.mem_filterMap.1 hid
          obtain ⟨i, hi⟩ := List.mem_iff_getElem?.1 hx1
          have hil : i < xs.length := by rw [omap_length hx]; exact (List.getElem?_eq_some_iff.1 hi).1
          have hs := omap_get hx i x _ hi (List.getElem?_eq_getElem hil)
          cases x <;> simp [ptrId?] at hx2
          subst hx2
          rename_i id off
          simp only [snapD] at hs
          cases hob : s.obs[id]? with
          | none => simp [hob] at hs
          | some ob => exact ⟨ob, rfl, rfl⟩
        · intro t ht
          rw [hun]
          have hsn : omap (snapD t) args = some xs := by
            rw [← hx]
            have : ∀ (l : List D), (∀ x ∈ l, x ∈ args) → omap (snapD t) l = omap (snapD s) l := by
              intro l
              induction l with
              | nil => intro _; rfl
              | cons x l ih =>
                intro hl
                have hx : snapD t x = snapD s x := by
                  cases x with
                  | ptr id off =>
                    obtain ⟨ob, g1, g2⟩ := ht id (List.mem_filterMap.2 ⟨.ptr id off, hl _ (by simp), rfl⟩)
                    simp only [snapD, g1, g2]
                  | _ => rfl
                simp only [omap, hx, ih (fun y hy => hl y (by simp [hy]))]
            exact this args (fun _ h => h)
          simp only [hsn]
          exact hm _ _ _ (fun r' e => by subst e; exact h1.2 t) h2
      · exact h.elim'

theorem spec_all (hm : MonoR R) (hd : DetR R) {s s' : St} {d : D} {m : Mop} (h : Fires T R o m s d s') (hb : fpOf T.iso T.hand T.look s m ≠ .bar) : Spec T R o m s d s' (fpOf T.iso T.hand T.look s m) := by
  cases m with
  | val => exact spec_val h
  | load => exact spec_load h
  | store => exact spec_store h
  | alloc => exact spec_alloc h
  | mkMap => exact spec_mkMap h
  | app id sz by_ es ys =>
    cases ys with
    | lit => exact spec_app h
    | mem => simp [fpOf] at hb
  | appNew t sz by_ base es ys =>
    cases ys with
    | lit => exact spec_appNew h
    | mem => simp [fpOf] at hb
  | mkBuf => exact spec_mkBuf h
  | lookup => exact spec_lookup h
  | mlen => exact spec_mlen h
  | mput => exact spec_mput h
  | mentry => exact spec_mentry h
  | estore => exact spec_estore h
  | mdel => exact spec_mdel h
  | call => exact spec_call hm hd h hb
  | _ => simp [fpOf] at hb

/-! ### two effects -/

theorem fits_lt {s : St} {f : Fp} {v : Vw} {e : Eff} (hf : Fits s f v e) (hv : v.same s s) : (∀ i a vs, e = .cells i a vs → i < s.obs.length) ∧ (∀ i ob, e = .obj i ob → i < s.obs.length) ∧ (∀ i b, e = .buf i b → i < s.bufs.length) := by
  cases f <;> simp only [Fits] at hf
  case wr id lo hi =>
    obtain ⟨rfl, vs, rfl, _⟩ := hf
    obtain ⟨cs, cs', t, h1, _⟩ := hv
    refine ⟨fun i a us e => by injection e with e; subst e; exact (List.getElem?_eq_some_iff.1 h1).1, by simp, by simp⟩
  case wro id =>
    obtain ⟨rfl, h | ⟨ob, rfl⟩⟩ := hf
    · subst h; simp
    · obtain ⟨ob', h1, _⟩ := hv
      exact ⟨by simp, fun i ob e => by injection e with e; subst e; exact (List.getElem?_eq_some_iff.1 h1).1, by simp⟩
  case wrb id =>
    obtain ⟨rfl, b, rfl⟩ := hf
    obtain ⟨b', h1, _⟩ := hv
    exact ⟨by simp, by simp, fun i b e => by injection e with e; subst e; exact (List.getElem?_eq_some_iff.1 h1).1⟩
  case al n => obtain ⟨_, _, ob, rfl⟩ := hf; simp
  case alb n =>
    obtain ⟨_, _, h | ⟨b, rfl⟩⟩ := hf
    · subst h; simp
    · simp
  all_goals (obtain ⟨_, rfl⟩ := hf; simp)

theorem olen_app (s : St) (e : Eff) (h : ∀ ob, e ≠ .addO ob) : (e.app s).obs.length = s.obs.length := by
  cases e with
  | addO ob => exact (h ob rfl).elim
  | cells => exact cells_olen
  | obj => simp [Eff.app, St.set]
  | _ => rfl
theorem blen_app (s : St) (e : Eff) (h : ∀ b, e ≠ .addB b) : (e.app s).bufs.length = s.bufs.length := by
  cases e with
  | addB b => exact (h b rfl).elim
  | cells => rw [cells_bufs]
  | buf => simp [Eff.app]
  | _ => rfl

/-- what the footprints say of views and effects: f1's come first -/
theorem compat_ok {s : St} {f1 f2 : Fp} {v1 v2 : Vw} {e1 e2 : Eff} (hc : compatF f1 f2 = true) (h1 : Fits s f1 v1 e1) (hv1 : v1.same s s) (h2 : Fits (e1.app s) f2 v2 e2) (hv2 : v2.same (e1.app s) (e1.app s)) :
    okF v1 e2 ∧ okB s v2 e1 ∧ okE s e1 e2 := by
  have hl1 := fits_lt h1 hv1
  have hl2 := fits_lt h2 hv2
  cases f1 <;> simp only [Fits] at h1
  case pure =>
    obtain ⟨rfl, rfl⟩ := h1
    refine ⟨by cases e2 <;> trivial, ?_, by cases e2 <;> trivial⟩
    cases v2 <;> simp [okB, okF]
  case rd id lo hi =>
    obtain ⟨rfl, rfl⟩ := h1
    refine ⟨?_, by cases v2 <;> simp [okB, okF], by cases e2 <;> trivial⟩
    cases f2 <;> simp only [Fits] at h2
    case wr j c d =>
      obtain ⟨rfl, vs, rfl, rfl⟩ := h2
      simp [compatF] at hc
      simp only [okF]; omega
    case wro j =>
      obtain ⟨rfl, h | ⟨ob, rfl⟩⟩ := h2
      · subst h; trivial
      · simpa [compatF, okF] using hc
    case wrb j => obtain ⟨rfl, b, rfl⟩ := h2; trivial
    case al n => obtain ⟨rfl, _, ob, rfl⟩ := h2; trivial
    case alb n => rcases h2 with ⟨rfl, _, rfl | ⟨b, rfl⟩⟩ <;> trivial
    all_goals first | exact h2.elim | (obtain ⟨rfl, rfl⟩ := h2; trivial)
  case rdo id =>
    obtain ⟨rfl, rfl⟩ := h1
    refine ⟨?_, by cases v2 <;> simp [okB, okF], by cases e2 <;> trivial⟩
    cases f2 <;> simp only [Fits] at h2
    case wr j c d => obtain ⟨rfl, vs, rfl, rfl⟩ := h2; simpa [compatF, okF] using hc
    case wro j =>
      obtain ⟨rfl, h | ⟨ob, rfl⟩⟩ := h2
      · subst h; trivial
      · simpa [compatF, okF] using hc
    case wrb j => obtain ⟨rfl, b, rfl⟩ := h2; trivial
    case al n => obtain ⟨rfl, _, ob, rfl⟩ := h2; trivial
    case alb n => rcases h2 with ⟨rfl, _, rfl | ⟨b, rfl⟩⟩ <;> trivial
    all_goals first | exact h2.elim | (obtain ⟨rfl, rfl⟩ := h2; trivial)
  case rdl ids =>
    obtain ⟨rfl, rfl⟩ := h1
    refine ⟨?_, by cases v2 <;> simp [okB, okF], by cases e2 <;> trivial⟩
    cases f2 <;> simp only [Fits] at h2
    case wr j c d => obtain ⟨rfl, vs, rfl, rfl⟩ := h2; simpa [compatF, okF] using hc
    case wro j =>
      obtain ⟨rfl, h | ⟨ob, rfl⟩⟩ := h2
      · subst h; trivial
      · simpa [compatF, okF] using hc
    case wrb j => obtain ⟨rfl, b, rfl⟩ := h2; trivial
    case al n => obtain ⟨rfl, _, ob, rfl⟩ := h2; trivial
    case alb n => rcases h2 with ⟨rfl, _, rfl | ⟨b, rfl⟩⟩ <;> trivial
    all_goals first | exact h2.elim | (obtain ⟨rfl, rfl⟩ := h2; trivial)
  case wr id lo hi =>
    obtain ⟨rfl, us, rfl, rfl⟩ := h1
    cases f2 <;> simp only [Fits] at h2
    case pure => obtain ⟨rfl, rfl⟩ := h2; exact ⟨trivial, trivial, trivial⟩
    case rd j c d => obtain ⟨rfl, rfl⟩ := h2; simp [compatF] at hc; exact ⟨trivial, by simp only [okB, okF]; omega, trivial⟩
    case rdo j => obtain ⟨rfl, rfl⟩ := h2; simp [compatF] at hc; exact ⟨trivial, by simp only [okB, okF]; omega, trivial⟩
    case rdl ids => obtain ⟨rfl, rfl⟩ := h2; simp [compatF] at hc; exact ⟨trivial, by simpa only [okB, okF] using hc, trivial⟩
    case wr j c d =>
      obtain ⟨rfl, vs, rfl, rfl⟩ := h2
      simp [compatF] at hc
      exact ⟨by simp only [okF]; omega, by simp only [okB, okF]; omega, by simp only [okE]; omega⟩
    case wro j =>
      obtain ⟨rfl, h | ⟨ob, rfl⟩⟩ := h2
      · subst h; simp [compatF] at hc; exact ⟨trivial, by simp only [okB, okF]; omega, trivial⟩
      · simp [compatF] at hc; exact ⟨by simp only [okF]; omega, by simp only [okB, okF]; omega, by simp only [okE]; omega⟩
    case wrb j => obtain ⟨rfl, b, rfl⟩ := h2; exact ⟨trivial, trivial, trivial⟩
    case al n => obtain ⟨rfl, _, ob, rfl⟩ := h2; exact ⟨trivial, trivial, hl1.1 _ _ _ rfl⟩
    case alb n => rcases h2 with ⟨rfl, _, rfl | ⟨b, rfl⟩⟩ <;> exact ⟨trivial, trivial, trivial⟩
  case wro id =>
    obtain ⟨rfl, h1 | ⟨ob1, rfl⟩⟩ := h1
    · subst h1
      refine ⟨?_, by cases v2 <;> simp [okB, okF], by cases e2 <;> trivial⟩
      cases f2 <;> simp only [Fits] at h2
      case wr j c d => obtain ⟨rfl, vs, rfl, rfl⟩ := h2; simpa [compatF, okF] using hc
      case wro j =>
        obtain ⟨rfl, h | ⟨ob, rfl⟩⟩ := h2
        · subst h; trivial
        · simpa [compatF, okF] using hc
      case wrb j => obtain ⟨rfl, b, rfl⟩ := h2; trivial
      case al n => obtain ⟨rfl, _, ob, rfl⟩ := h2; trivial
      case alb n => rcases h2 with ⟨rfl, _, rfl | ⟨b, rfl⟩⟩ <;> trivial
      all_goals first | exact h2.elim | (obtain ⟨rfl, rfl⟩ := h2; trivial)
    · cases f2 <;> simp only [Fits] at h2
      case pure => obtain ⟨rfl, rfl⟩ := h2; exact ⟨trivial, trivial, trivial⟩
      case rd j c d => obtain ⟨rfl, rfl⟩ := h2; simp [compatF] at hc; exact ⟨trivial, by simp only [okB, okF]; omega, trivial⟩
      case rdo j => obtain ⟨rfl, rfl⟩ := h2; simp [compatF] at hc; exact ⟨trivial, by simp only [okB, okF]; omega, trivial⟩
      case rdl ids => obtain ⟨rfl, rfl⟩ := h2; simp [compatF] at hc; exact ⟨trivial, by simpa only [okB, okF] using hc, trivial⟩
      case wr j c d =>
        obtain ⟨rfl, vs, rfl, rfl⟩ := h2
        simp [compatF] at hc
        exact ⟨by simp only [okF]; omega, by simp only [okB, okF]; omega, by simp only [okE]; omega⟩
      case wro j =>
        obtain ⟨rfl, h | ⟨ob, rfl⟩⟩ := h2
        · subst h; simp [compatF] at hc; exact ⟨trivial, by simp only [okB, okF]; omega, trivial⟩
        · simp [compatF] at hc; exact ⟨by simp only [okF]; omega, by simp only [okB, okF]; omega, by simp only [okE]; omega⟩
      case wrb j => obtain ⟨rfl, b, rfl⟩ := h2; exact ⟨trivial, trivial, trivial⟩
      case al n => obtain ⟨rfl, _, ob, rfl⟩ := h2; exact ⟨trivial, trivial, hl1.2.1 _ _ rfl⟩
      case alb n => rcases h2 with ⟨rfl, _, rfl | ⟨b, rfl⟩⟩ <;> exact ⟨trivial, trivial, trivial⟩
  case wrb id =>
    obtain ⟨rfl, b1, rfl⟩ := h1
    cases f2 <;> simp only [Fits] at h2
    case wr j c d => obtain ⟨rfl, vs, rfl, rfl⟩ := h2; exact ⟨trivial, trivial, trivial⟩
    case wro j => rcases h2 with ⟨rfl, rfl | ⟨ob, rfl⟩⟩ <;> exact ⟨trivial, trivial, trivial⟩
    case wrb j =>
      obtain ⟨rfl, b, rfl⟩ := h2
      simp [compatF] at hc
      exact ⟨by simp only [okF]; omega, by simp only [okB, okF]; omega, by simp only [okE]; omega⟩
    case al n => obtain ⟨rfl, _, ob, rfl⟩ := h2; exact ⟨trivial, trivial, trivial⟩
    case alb n =>
      obtain ⟨rfl, _, h | ⟨b, rfl⟩⟩ := h2
      · subst h; exact ⟨trivial, trivial, trivial⟩
      · exact ⟨trivial, trivial, hl1.2.2 _ _ rfl⟩
    all_goals first | exact h2.elim | (obtain ⟨rfl, rfl⟩ := h2; exact ⟨trivial, trivial, trivial⟩)
  case al n =>
    obtain ⟨rfl, hn, ob1, rfl⟩ := h1
    have hlen : ((Eff.addO ob1).app s).obs.length = s.obs.length + 1 := by simp [Eff.app, St.add]
    cases f2 <;> simp only [Fits] at h2
    case pure => obtain ⟨rfl, rfl⟩ := h2; exact ⟨trivial, trivial, trivial⟩
    case rd j c d => obtain ⟨rfl, rfl⟩ := h2; simp [compatF] at hc; exact ⟨trivial, by simp only [okB]; omega, trivial⟩
    case rdo j => obtain ⟨rfl, rfl⟩ := h2; simp [compatF] at hc; exact ⟨trivial, by simp only [okB]; omega, trivial⟩
    case rdl ids => obtain ⟨rfl, rfl⟩ := h2; simp [compatF] at hc; exact ⟨trivial, by rw [hn] at hc; exact hc, trivial⟩
    case wr j c d =>
      obtain ⟨rfl, vs, rfl, rfl⟩ := h2
      have := hl2.1 _ _ _ rfl
      simp [compatF] at hc
      exact ⟨trivial, by simp only [okB]; omega, by simp only [okE]; omega⟩
    case wro j =>
      obtain ⟨rfl, h | ⟨ob, rfl⟩⟩ := h2
      · subst h; simp [compatF] at hc; exact ⟨trivial, by simp only [okB]; omega, trivial⟩
      · have := hl2.2.1 _ _ rfl
        simp [compatF] at hc; exact ⟨trivial, by simp only [okB]; omega, by simp only [okE]; omega⟩
    case wrb j => obtain ⟨rfl, b, rfl⟩ := h2; exact ⟨trivial, trivial, trivial⟩
    case al m => simp [compatF] at hc
    case alb m => rcases h2 with ⟨rfl, _, rfl | ⟨b, rfl⟩⟩ <;> exact ⟨trivial, trivial, trivial⟩
  case alb n =>
    obtain ⟨rfl, hn, h1⟩ := h1
    cases f2 <;> simp only [Fits] at h2
    case wrb j =>
      obtain ⟨rfl, b, rfl⟩ := h2
      simp [compatF] at hc
      rcases h1 with rfl | ⟨b1, rfl⟩
      · exact ⟨trivial, by simp [okB, okF], trivial⟩
      · have := hl2.2.2 _ _ rfl
        have hlen : ((Eff.addB b1).app s).bufs.length = s.bufs.length + 1 := by simp [Eff.app]
        exact ⟨trivial, by simp only [okB]; omega, by simp only [okE]; omega⟩
    case wr j c d => obtain ⟨rfl, vs, rfl, rfl⟩ := h2; rcases h1 with rfl | ⟨b1, rfl⟩ <;> exact ⟨trivial, trivial, trivial⟩
    case wro j =>
      rcases h2 with ⟨rfl, rfl | ⟨ob, rfl⟩⟩ <;> rcases h1 with rfl | ⟨b1, rfl⟩ <;> exact ⟨trivial, trivial, trivial⟩
    case al m => obtain ⟨rfl, _, ob, rfl⟩ := h2; rcases h1 with rfl | ⟨b1, rfl⟩ <;> exact ⟨trivial, trivial, trivial⟩
    case alb m => simp [compatF] at hc
    all_goals first | exact h2.elim | (obtain ⟨rfl, rfl⟩ := h2; rcases h1 with rfl | ⟨b1, rfl⟩ <;> exact ⟨trivial, trivial, trivial⟩)

/-- two operations that fit one another, in the other order; one may be plain data whatever the other does -/
theorem swap_fires (hm : MonoR R) (hd : DetR R) {o1 o2 : Oper} {m1 m2 : Mop} {s s1 s2 : St} {d1 d2 : D} (h1 : Fires T R o1 m1 s d1 s1) (h2 : Fires T R o2 m2 s1 d2 s2)
    (hc : compatF (fpOf T.iso T.hand T.look s m1) (fpOf T.iso T.hand T.look s1 m2) = true) :
    ∃ s1', Fires T R o2 m2 s d2 s1' ∧ Fires T R o1 m1 s1' d1 s2 := by
  have pure_of : ∀ {o : Oper} {m : Mop} {s s' : St} {d : D}, fpOf T.iso T.hand T.look s m = .pure → Fires T R o m s d s' → s' = s ∧ ∀ t, Fires T R o m t d t := by
    intro o m s s' d hp h
    obtain ⟨v, e, e1, e2, _, e4⟩ := (spec_all hm hd h (by rw [hp]; simp)).ex
    rw [hp] at e2
    obtain ⟨rfl, rfl⟩ := e2
    exact ⟨e1, fun t => e4 t trivial⟩
  by_cases hp1 : fpOf T.iso T.hand T.look s m1 = .pure
  · obtain ⟨rfl, hall⟩ := pure_of hp1 h1
    exact ⟨s2, h2, hall s2⟩
  by_cases hp2 : fpOf T.iso T.hand T.look s1 m2 = .pure
  · obtain ⟨rfl, hall⟩ := pure_of hp2 h2
    exact ⟨s, hall s, h1⟩
  have hb1 : fpOf T.iso T.hand T.look s m1 ≠ .bar := by
    intro h; rw [h] at hc
    cases hf : fpOf T.iso T.hand T.look s1 m2 <;> simp [hf, compatF] at hc
    exact hp2 hf
  have hb2 : fpOf T.iso T.hand T.look s1 m2 ≠ .bar := by
    intro h; rw [h] at hc
    cases hf : fpOf T.iso T.hand T.look s m1 <;> simp [hf, compatF] at hc
    exact hp1 hf
  obtain ⟨v1, e1, a1, a2, a3, a4⟩ := (spec_all hm hd h1 hb1).ex
  obtain ⟨v2, e2, b1, b2, b3, b4⟩ := (spec_all hm hd h2 hb2).ex
  subst a1
  obtain ⟨c1, c2, c3⟩ := compat_ok hc a2 a3 b2 b3
  refine ⟨e2.app s, b4 s (stabB c2 b3), ?_⟩
  rw [b1, ← app_comm c3]
  exact a4 _ (stab c1 a3)

end
end Go.DI

/-
  A region whose order Go leaves open: every order comes to what the text's order comes to.
-/
namespace Go.DI
open Go

section
variable {T : Par} {R : RT} {P : Program}

theorem fp_same {iso hand look : FuncId → Bool} {s t : St} {m : Mop} (h1 : ∀ n, fpOf iso hand look s m = .al n → s.obs.length = t.obs.length) (h2 : ∀ n, fpOf iso hand look s m = .alb n → s.bufs.length = t.bufs.length) :
    fpOf iso hand look t m = fpOf iso hand look s m := by
  cases m with
  | alloc => simp only [fpOf] at h1 ⊢; rw [h1 _ rfl]
  | mkMap => simp only [fpOf] at h1 ⊢; rw [h1 _ rfl]
  | mkBuf => simp only [fpOf] at h2 ⊢; rw [h2 _ rfl]
  | appNew t sz by_ base es ys =>
    cases ys with
    | lit => simp only [fpOf] at h2 ⊢; rw [h2 _ rfl]
    | mem => rfl
  | app id sz by_ es ys => cases ys <;> rfl
  | call f args =>
    simp only [fpOf] at h2 ⊢
    by_cases hi : iso f = true
    · by_cases hh : hand f = true
      · simp only [hi, hh, if_true] at h2 ⊢; rw [h2 _ rfl]
      · simp [hi, hh]
    · simp [hi]
  | _ => rfl

theorem not_addO {s : St} {f : Fp} {v : Vw} {e : Eff} (hf : Fits s f v e) (h : ∀ n, f ≠ .al n) : ∀ ob, e ≠ .addO ob := by
  intro ob he
  subst he
  cases f <;> simp only [Fits] at hf
  case al n => exact h n rfl
  case wr => obtain ⟨_, vs, h, _⟩ := hf; cases h
  case wro => obtain ⟨_, h | ⟨_, h⟩⟩ := hf <;> cases h
  case wrb => obtain ⟨_, b, h⟩ := hf; cases h
  case alb => obtain ⟨_, _, h | ⟨_, h⟩⟩ := hf <;> cases h
  all_goals (obtain ⟨_, h⟩ := hf; cases h)

theorem not_addB {s : St} {f : Fp} {v : Vw} {e : Eff} (hf : Fits s f v e) (h : ∀ n, f ≠ .alb n) : ∀ b, e ≠ .addB b := by
  intro ob he
  subst he
  cases f <;> simp only [Fits] at hf
  case alb n => exact h n rfl
  case wr => obtain ⟨_, vs, h, _⟩ := hf; cases h
  case wro => obtain ⟨_, h | ⟨_, h⟩⟩ := hf <;> cases h
  case wrb => obtain ⟨_, b, h⟩ := hf; cases h
  case al => obtain ⟨_, _, _, h⟩ := hf; cases h
  all_goals (obtain ⟨_, h⟩ := hf; cases h)

theorem swap_fires' (hm : MonoR R) (hd : DetR R) {o1 o2 : Oper} {m1 m2 : Mop} {s s1 s2 : St} {d1 d2 : D} (h1 : Fires T R o1 m1 s d1 s1) (h2 : Fires T R o2 m2 s1 d2 s2)
    (hc : compatF (fpOf T.iso T.hand T.look s m1) (fpOf T.iso T.hand T.look s1 m2) = true) :
    ∃ s1', Fires T R o2 m2 s d2 s1' ∧ Fires T R o1 m1 s1' d1 s2 ∧ fpOf T.iso T.hand T.look s m2 = fpOf T.iso T.hand T.look s1 m2 ∧ fpOf T.iso T.hand T.look s1' m1 = fpOf T.iso T.hand T.look s m1 := by
  have pure_of : ∀ {o : Oper} {m : Mop} {s s' : St} {d : D}, fpOf T.iso T.hand T.look s m = .pure → Fires T R o m s d s' → s' = s ∧ ∀ t, Fires T R o m t d t := by
    intro o m s s' d hp h
    obtain ⟨v, e, e1, e2, _, e4⟩ := (spec_all hm hd h (by rw [hp]; simp)).ex
    rw [hp] at e2
    obtain ⟨rfl, rfl⟩ := e2
    exact ⟨e1, fun t => e4 t trivial⟩
  have pure_fp : ∀ {m : Mop} {s t : St}, fpOf T.iso T.hand T.look s m = .pure → fpOf T.iso T.hand T.look t m = fpOf T.iso T.hand T.look s m :=
    fun hp => fp_same (fun n h => by rw [hp] at h; cases h) (fun n h => by rw [hp] at h; cases h)
  by_cases hp1 : fpOf T.iso T.hand T.look s m1 = .pure
  · obtain ⟨rfl, hall⟩ := pure_of hp1 h1
    exact ⟨s2, h2, hall s2, rfl, pure_fp hp1⟩
  by_cases hp2 : fpOf T.iso T.hand T.look s1 m2 = .pure
  · obtain ⟨rfl, hall⟩ := pure_of hp2 h2
    exact ⟨s, hall s, h1, pure_fp hp2, rfl⟩
  have hb1 : fpOf T.iso T.hand T.look s m1 ≠ .bar := by
    intro h; rw [h] at hc
    cases hf : fpOf T.iso T.hand T.look s1 m2 <;> simp [hf, compatF] at hc
    exact hp2 hf
  have hb2 : fpOf T.iso T.hand T.look s1 m2 ≠ .bar := by
    intro h; rw [h] at hc
    cases hf : fpOf T.iso T.hand T.look s m1 <;> simp [hf, compatF] at hc
    exact hp1 hf
  obtain ⟨v1, e1, a1, a2, a3, a4⟩ := (spec_all hm hd h1 hb1).ex
  obtain ⟨v2, e2, b1, b2, b3, b4⟩ := (spec_all hm hd h2 hb2).ex
  subst a1
  obtain ⟨c1, c2, c3⟩ := compat_ok hc a2 a3 b2 b3
  refine ⟨e2.app s, b4 s (stabB c2 b3), ?_, fp_same (fun n h => ?_) (fun n h => ?_), fp_same (fun n h => ?_) (fun n h => ?_)⟩
  · rw [b1, ← app_comm c3]
    exact a4 _ (stab c1 a3)
  · exact olen_app s e1 (not_addO a2 (fun k hk => by rw [hk, h] at hc; simp [compatF] at hc))
  · exact blen_app s e1 (not_addB a2 (fun k hk => by rw [hk, h] at hc; simp [compatF] at hc))
  · exact (olen_app s e2 (not_addO b2 (fun k hk => by rw [hk, h] at hc; simp [compatF] at hc))).symm
  · exact (blen_app s e2 (not_addB b2 (fun k hk => by rw [hk, h] at hc; simp [compatF] at hc))).symm

/-! ### temporaries -/

theorem ev_put {ts : List D} {dst : Option Tmp} {d : D} {x : Operand} (h : ∀ t, dst = some t → x ≠ .tmp t) : ev (putD ts dst d) x = ev ts x := by
  cases dst with
  | none => rfl
  | some t =>
    cases x with
    | tmp u =>
      have hne : t ≠ u := fun e => h t rfl (e ▸ rfl)
      simp only [putD, ev, List.getD_eq_getElem?_getD]
      rw [List.getElem?_set_ne hne]
    | _ => rfl

theorem decCall_congr {ts ts' : List D} {c : Call} (h : ∀ x ∈ c.operands, ev ts x = ev ts' x) : decCall P ts c = decCall P ts' c := by
  have hargs : c.args.toList.map (ev ts) = c.args.toList.map (ev ts') := List.map_congr_left fun x hx => h x (by simp [Call.operands, Array.mem_toList_iff.1 hx])
  unfold decCall
  simp only [hargs]
  cases hc : c.callee with
  | value f => have hf : ev ts f = ev ts' f := h f (by simp [Call.operands, hc]); simp only [hf]
  | invoke r m => rfl
  | builtin b => rfl

theorem dec_congr {o : Oper} {ts ts' : List D} (h : ∀ x ∈ o.op.operands, ev ts x = ev ts' x) : dec P o ts = dec P o ts' := by
  obtain ⟨dst, op, type, pos, after, guard⟩ := o
  have pairs : ∀ ps : Array (Nat × Operand), (∀ x ∈ ps.map (·.2), ev ts x = ev ts' x) → (ps.toList.map fun p => (p.1, ev ts p.2)) = (ps.toList.map fun p => (p.1, ev ts' p.2)) := fun ps hp =>
    List.map_congr_left fun p hm => by
      simp only [hp p.2 (Array.mem_map.2 ⟨p, Array.mem_toList_iff.1 hm, rfl⟩)]
  have vals : ∀ ps : Array Operand, (∀ x ∈ ps, ev ts x = ev ts' x) → ps.toList.map (ev ts) = ps.toList.map (ev ts') := fun ps hp =>
    List.map_congr_left fun p hm => hp p (Array.mem_toList_iff.1 hm)
  cases op <;> simp only [Op.operands] at h <;> simp only [dec]
  case build t ps => rw [pairs ps fun x hx => h x (by simpa using hx)]
  case buildSlice t n ps => rw [pairs ps fun x hx => h x (by simpa using hx)]
  case makeFunc fn first captured =>
    rw [vals first fun x hx => h x (by simp [hx]), vals captured fun x hx => h x (by simp [hx])]
  case call c => exact decCall_congr h
  case makeMap t r => cases r <;> simp_all
  case slice t x lo hi mx => cases lo <;> cases hi <;> cases mx <;> simp_all
  all_goals (first | rfl | (simp_all; done))

theorem dec_put {o : Oper} {ts : List D} {dst : Option Tmp} {d : D} (h : ∀ t, dst = some t → t ∉ opTmps o) : dec P o (putD ts dst d) = dec P o ts :=
  dec_congr fun x hx => ev_put fun t ht hxt => h t ht (by
    subst hxt
    exact List.mem_filterMap.2 ⟨.tmp t, by simpa using hx, rfl⟩)

theorem wants_put {ops : Array Oper} {o : Oper} {ts : List D} {dst : Option Tmp} {d : D} {K : Bool → Prop} (h : ∀ t, dst = some t → t ∉ guardTmp ops o) : wants ops o (putD ts dst d) K = wants ops o ts K := by
  unfold wants
  unfold guardTmp at h
  cases hg : o.guard with
  | none => rfl
  | some jw =>
    obtain ⟨j, want⟩ := jw
    simp only [hg] at h
    dsimp only
    cases ht : (ops[j]?).bind (·.dst) with
    | none => rfl
    | some u =>
      dsimp only
      have : (putD ts dst d).getD u undefD = ts.getD u undefD := by
        have := ev_put (ts := ts) (dst := dst) (d := d) (x := .tmp u) (fun t hd e => h t hd (by injection e with e; subst e; simp [ht]))
        exact this
      rw [this]

theorem putD_comm {ts : List D} {x y : Option Tmp} {d e : D} (h : ∀ t, x = some t → y ≠ some t) : putD (putD ts x d) y e = putD (putD ts y e) x d := by
  cases x with
  | none => rfl
  | some t =>
    cases y with
    | none => rfl
    | some u =>
      have hne : t ≠ u := fun e => h t rfl (e ▸ rfl)
      simp only [putD]; rw [List.set_comm _ _ hne]

/-! ### events -/

structure Evt where
  i : Nat
  o : Oper
  w : Bool
  m : Mop
  d : D
  f : Fp

def FireE (T : Par) (R : RT) (ops : Array Oper) (e : Evt) (x y : List D × St) : Prop :=
  (∀ K' : Bool → Prop, K' e.w → wants ops e.o x.1 K') ∧
  match e.w with
  | true => dec T.P e.o x.1 = e.m ∧ fpOf T.iso T.hand T.look x.2 e.m = e.f ∧ Fires T R e.o e.m x.2 e.d y.2 ∧ y.1 = putD x.1 e.o.dst e.d
  | false => e.f = .pure ∧ y.2 = x.2 ∧ y.1 = putD x.1 e.o.dst undefD

def RunE (T : Par) (R : RT) (ops : Array Oper) : List Evt → (List D × St) → (List D × St) → Prop
  | [], x, y => x = y
  | e :: es, x, y => ∃ z, FireE T R ops e x z ∧ RunE T R ops es z y

def Compat (ops : Array Oper) (a b : Evt) : Prop := compatF a.f b.f = true ∧ compatT ops a.o b.o = true

theorem compatT_spec {ops : Array Oper} {a b : Oper} (h : compatT ops a b = true) :
    (∀ t, a.dst = some t → t ∉ opTmps b ∧ t ∉ guardTmp ops b ∧ b.dst ≠ some t) ∧ (∀ t, b.dst = some t → t ∉ opTmps a ∧ t ∉ guardTmp ops a) := by
  unfold compatT at h
  simp only [Bool.and_eq_true, List.all_eq_true, Option.mem_toList] at h
  refine ⟨fun t ht => ?_, fun t ht => ?_⟩
  · have := h.1 t ht
    simp at this
    exact ⟨this.1.1, this.1.2, this.2⟩
  · have := h.2 t ht
    simp at this
    exact this

variable {ops : Array Oper}

theorem swapE (hm : MonoR R) (hd : DetR R) {a b : Evt} {x y z : List D × St} (hc : Compat ops a b) (ha : FireE T R ops a x y) (hb : FireE T R ops b y z) : ∃ y', FireE T R ops b x y' ∧ FireE T R ops a y' z := by
  obtain ⟨hcf, hct⟩ := hc
  obtain ⟨ht1, ht2⟩ := compatT_spec hct
  obtain ⟨ai, ao, aw, am, ad, af⟩ := a
  obtain ⟨bi, bo, bw, bm, bd, bf⟩ := b
  obtain ⟨x1, x2⟩ := x
  obtain ⟨y1, y2⟩ := y
  obtain ⟨z1, z2⟩ := z
  obtain ⟨wa, ha⟩ := ha
  obtain ⟨wb, hb⟩ := hb
  simp only at hcf ht1 ht2 wa ha wb hb
  have bd1 : ∀ u, dec T.P bo (putD x1 ao.dst u) = dec T.P bo x1 := fun u => dec_put fun t ht => (ht1 t ht).1
  have bw1 : ∀ u K, wants ops bo (putD x1 ao.dst u) K = wants ops bo x1 K := fun u K => wants_put fun t ht => (ht1 t ht).2.1
  have ad1 : ∀ u, dec T.P ao (putD x1 bo.dst u) = dec T.P ao x1 := fun u => dec_put fun t ht => (ht2 t ht).1
  have aw1 : ∀ u K, wants ops ao (putD x1 bo.dst u) K = wants ops ao x1 K := fun u K => wants_put fun t ht => (ht2 t ht).2
  have cm : ∀ u v, putD (putD x1 ao.dst u) bo.dst v = putD (putD x1 bo.dst v) ao.dst u := fun u v => putD_comm fun t ht => (ht1 t ht).2.2
  cases aw with
  | true =>
    obtain ⟨a1, a2, a3, a4⟩ := ha
    try simp only at a1 a2 a3 a4
    subst a4
    cases bw with
    | true =>
      obtain ⟨b1, b2, b3, b4⟩ := hb
      try simp only at b1 b2 b3 b4
      subst b4
      rw [bd1] at b1
      obtain ⟨s', g1, g2, g3, g4⟩ := swap_fires' hm hd a3 b3 (by rw [a2, b2]; exact hcf)
      exact ⟨(putD x1 bo.dst bd, s'), ⟨fun K' h => by rw [← bw1 ad]; exact wb K' h, b1, by rw [g3, b2], g1, rfl⟩, ⟨fun K' h => by show wants ops ao (putD x1 bo.dst bd) K'; rw [aw1]; exact wa K' h, by show dec T.P ao (putD x1 bo.dst bd) = am; rw [ad1, a1], by rw [g4, a2], g2, cm _ _⟩⟩
    | false =>
      obtain ⟨b1, b2, b3⟩ := hb
      try simp only at b1 b2 b3
      subst b2; subst b3
      exact ⟨(putD x1 bo.dst undefD, x2), ⟨fun K' h => by rw [← bw1 ad]; exact wb K' h, b1, rfl, rfl⟩, ⟨fun K' h => by show wants ops ao (putD x1 bo.dst undefD) K'; rw [aw1]; exact wa K' h, by show dec T.P ao (putD x1 bo.dst undefD) = am; rw [ad1, a1], a2, a3, cm _ _⟩⟩
  | false =>
    obtain ⟨a1, a2, a3⟩ := ha
    try simp only at a1 a2 a3
    subst a2; subst a3
    cases bw with
    | true =>
      obtain ⟨b1, b2, b3, b4⟩ := hb
      try simp only at b1 b2 b3 b4
      subst b4
      rw [bd1] at b1
      exact ⟨(putD x1 bo.dst bd, z2), ⟨fun K' h => by rw [← bw1 undefD]; exact wb K' h, b1, b2, b3, rfl⟩, ⟨fun K' h => by show wants ops ao (putD x1 bo.dst bd) K'; rw [aw1]; exact wa K' h, a1, rfl, cm _ _⟩⟩
    | false =>
      obtain ⟨b1, b2, b3⟩ := hb
      try simp only at b1 b2 b3
      subst b2; subst b3
      exact ⟨(putD x1 bo.dst undefD, z2), ⟨fun K' h => by rw [← bw1 undefD]; exact wb K' h, b1, rfl, rfl⟩, ⟨fun K' h => by show wants ops ao (putD x1 bo.dst undefD) K'; rw [aw1]; exact wa K' h, a1, rfl, cm _ _⟩⟩

theorem front (hm : MonoR R) (hd : DetR R) {e : Evt} {B : List Evt} : ∀ (A : List Evt) (x y : List D × St), (∀ a ∈ A, Compat ops a e) → RunE T R ops (A ++ e :: B) x y → RunE T R ops (e :: (A ++ B)) x y
  | [], x, y, _, h => h
  | a :: A, x, y, hA, h => by
    obtain ⟨z, h1, h2⟩ := h
    obtain ⟨z', h3, h4⟩ := front hm hd A z y (fun b hb => hA b (by simp [hb])) h2
    obtain ⟨y', h5, h6⟩ := swapE hm hd (hA a (by simp)) h1 h3
    exact ⟨y', h5, z', h6, h4⟩

theorem draw_events (hm : MonoR R) (hd : DetR R) {bef : Array Nat} {K : List D → St → Prop} : ∀ (os : List Oper) (i : Nat) (acc : List (Nat × Oper × Fp)) (ts : List D) (s : St), dDraw T R ops bef K i acc os ts s →
    ∃ (es : List Evt) (y : List D × St), K y.1 y.2 ∧ RunE T R ops es (ts, s) y ∧ es.map (·.o) = os ∧ es.map (·.i) = List.range' i os.length ∧
      (∀ e ∈ es, ∀ a ∈ acc, (bef.getD e.i 0).testBit a.1 = true ∨ (compatF a.2.2 e.f = true ∧ compatT ops a.2.1 e.o = true)) ∧
      es.Pairwise (fun a b => (bef.getD b.i 0).testBit a.i = true ∨ Compat ops a b)
  | [], i, acc, ts, s, h => ⟨[], (ts, s), h, rfl, rfl, rfl, by simp, .nil⟩
  | o :: os, i, acc, ts, s, h => by
    simp only [dDraw] at h
    obtain ⟨b, hb, hw⟩ := wants_b h
    -- the event, and the rest
    have key : ∃ (e : Evt) (z : List D × St), e.i = i ∧ e.o = o ∧ FireE T R ops e (ts, s) z ∧ dDraw T R ops bef K (i + 1) ((i, o, e.f) :: acc) os z.1 z.2 ∧
        ∀ a ∈ acc, (bef.getD i 0).testBit a.1 = true ∨ (compatF a.2.2 e.f = true ∧ compatT ops a.2.1 o = true) := by
      cases b with
      | true =>
        simp only [if_true] at hb
        split at hb
        · rename_i hc
          obtain ⟨d, s', h1, h2⟩ := runR_det hm hd hb
          refine ⟨⟨i, o, true, dec T.P o ts, d, fpOf T.iso T.hand T.look s (dec T.P o ts)⟩, (putD ts o.dst d, s'), rfl, rfl, ⟨fun K' h => hw K' h, rfl, rfl, h2, rfl⟩, h1, fun a ha => ?_⟩
          have := List.all_eq_true.1 hc a ha
          simpa only [Bool.or_eq_true, Bool.and_eq_true] using this
        · exact hb.elim'
      | false =>
        simp only [Bool.false_eq_true, if_false] at hb
        split at hb
        · rename_i hc
          refine ⟨⟨i, o, false, .fail, undefD, .pure⟩, (putD ts o.dst undefD, s), rfl, rfl, ⟨fun K' h => hw K' h, rfl, rfl, rfl⟩, hb, fun a ha => ?_⟩
          have := List.all_eq_true.1 hc a ha
          simpa only [Bool.or_eq_true, Bool.and_eq_true] using this
        · exact hb.elim'
    obtain ⟨e, z, e1, e2, e3, e4, e5⟩ := key
    obtain ⟨es, y, h1, h2, h3, h4, h5, h6⟩ := draw_events hm hd os (i + 1) _ z.1 z.2 e4
    refine ⟨e :: es, y, h1, ⟨z, e3, h2⟩, by simp [e2, h3], ?_, ?_, ?_⟩
    · rw [List.map_cons, h4, e1, List.length_cons, List.range'_succ]
    · intro e' he' a ha
      rcases List.mem_cons.1 he' with rfl | he'
      · rw [e1, e2]; exact e5 a ha
      · exact h5 e' he' a (by simp [ha])
    · refine List.pairwise_cons.2 ⟨fun e' he' => ?_, h6⟩
      rcases h5 e' he' (i, o, e.f) (by simp) with h | h
      · exact .inl (by rw [e1]; exact h)
      · exact .inr ⟨h.1, by rw [e2]; exact h.2⟩

/-! ### what comes before what -/

theorem fold_bits (acc : Array Nat) (k : Nat) : ∀ (l : List Edge) (s0 : Nat), (l.foldl (fun s e => if Region.binds .any e then s ||| 2 ^ e.on ||| acc.getD e.on 0 else s) s0).testBit k = true →
    s0.testBit k = true ∨ ∃ e ∈ l, Region.binds .any e = true ∧ (k = e.on ∨ (acc.getD e.on 0).testBit k = true)
  | [], s0, h => .inl h
  | e :: l, s0, h => by
    simp only [List.foldl_cons] at h
    rcases fold_bits acc k l _ h with h | ⟨e', h1, h2⟩
    · split at h
      · rename_i hb
        rw [Nat.testBit_or, Nat.testBit_or, Bool.or_eq_true, Bool.or_eq_true, Nat.testBit_two_pow] at h
        rcases h with (h | h) | h
        · exact .inl h
        · exact .inr ⟨e, by simp, hb, .inl (by simpa using (of_decide_eq_true h).symm)⟩
        · exact .inr ⟨e, by simp, hb, .inr h⟩
      · exact .inl h
    · exact .inr ⟨e', by simp [h1], h2⟩

theorem push_getD_gt (acc : Array Nat) (v j : Nat) (h : acc.size < j) : (acc.push v).getD j 0 = 0 := by
  have : (acc.push v)[j]? = none := Array.getElem?_eq_none (by simp; omega)
  simp [this]

theorem before_aux : ∀ (l : List Oper) (pre : List Oper) (acc : Array Nat), acc.size = pre.length →
    (∀ i k, (acc.getD i 0).testBit k = true → ∃ o e, pre[i]? = some o ∧ e ∈ o.after ∧ Region.binds .any e = true ∧ (k = e.on ∨ (acc.getD e.on 0).testBit k = true)) →
    ∀ i k, ((l.foldl (fun acc o => acc.push (o.after.foldl (fun s e => if Region.binds .any e then s ||| 2 ^ e.on ||| acc.getD e.on 0 else s) 0)) acc).getD i 0).testBit k = true →
      ∃ o e, (pre ++ l)[i]? = some o ∧ e ∈ o.after ∧ Region.binds .any e = true ∧
        (k = e.on ∨ ((l.foldl (fun acc o => acc.push (o.after.foldl (fun s e => if Region.binds .any e then s ||| 2 ^ e.on ||| acc.getD e.on 0 else s) 0)) acc).getD e.on 0).testBit k = true)
  | [], pre, acc, hsz, hinv, i, k, h => by simpa using hinv i k h
  | o :: l, pre, acc, hsz, hinv, i, k, h => by
    simp only [List.foldl_cons] at h ⊢
    have := before_aux l (pre ++ [o]) (acc.push (o.after.foldl (fun s e => if Region.binds .any e then s ||| 2 ^ e.on ||| acc.getD e.on 0 else s) 0)) (by simp [hsz]) (by
      intro j n hj
      have hget : ∀ m, m < acc.size → (acc.push (o.after.foldl (fun s e => if Region.binds .any e then s ||| 2 ^ e.on ||| acc.getD e.on 0 else s) 0)).getD m 0 = acc.getD m 0 := by
        intro m hm
        simp [Array.getElem?_push_lt hm, Array.getElem?_eq_getElem hm]
      have hup : ∀ m, (acc.getD m 0).testBit n = true → ((acc.push (o.after.foldl (fun s e => if Region.binds .any e then s ||| 2 ^ e.on ||| acc.getD e.on 0 else s) 0)).getD m 0).testBit n = true := by
        intro m hm
        by_cases hlt : m < acc.size
        · rw [hget m hlt]; exact hm
        · simp [Array.getElem?_eq_none (Nat.le_of_not_lt hlt)] at hm
      by_cases hlt : j < acc.size
      · rw [hget j hlt] at hj
        obtain ⟨o', e, h1, h2, h3, h4⟩ := hinv j n hj
        exact ⟨o', e, get_append_of h1 _, h2, h3, h4.imp (fun h => h) (hup _)⟩
      · by_cases hje : j = acc.size
        · subst hje
          have hv : (acc.push (o.after.foldl (fun s e => if Region.binds .any e then s ||| 2 ^ e.on ||| acc.getD e.on 0 else s) 0)).getD acc.size 0 = o.after.foldl (fun s e => if Region.binds .any e then s ||| 2 ^ e.on ||| acc.getD e.on 0 else s) 0 := by simp
          rw [hv, ← Array.foldl_toList] at hj
          rcases fold_bits acc n o.after.toList 0 hj with h | ⟨e, h1, h2, h3⟩
          · simp at h
          · exact ⟨o, e, by rw [hsz]; simp, Array.mem_toList_iff.1 h1, h2, h3.imp (fun h => h) (hup _)⟩
        · rw [push_getD_gt _ _ _ (by omega)] at hj
          simp at hj) i k h
    simpa using this

theorem before_spec {i k : Nat} (h : ((Region.before ops).getD i 0).testBit k = true) : ∃ o e, ops[i]? = some o ∧ e ∈ o.after ∧ Region.binds .any e = true ∧ (k = e.on ∨ ((Region.before ops).getD e.on 0).testBit k = true) := by
  have hb : Region.before ops = ops.toList.foldl (fun acc o => acc.push (o.after.foldl (fun s e => if Region.binds .any e then s ||| 2 ^ e.on ||| acc.getD e.on 0 else s) 0)) #[] := by
    unfold Region.before; rw [← Array.foldl_toList]
  rw [hb] at h ⊢
  have := before_aux ops.toList [] #[] rfl (by intro i k h; simp at h) i k h
  simpa using this

/-! ### every order -/

def Closed (bef : Array Nat) (listed : Array Bool) : Prop := ∀ j k, listed.getD j false = true → (bef.getD j 0).testBit k = true → listed.getD k false = true

theorem drawOk_edge (hok : drawOk P ops = true) {i : Nat} {o : Oper} {e : Edge} (ho : ops[i]? = some o) (he : e ∈ o.after) (hb : Region.binds .any e = true) : e.on < i := by
  unfold drawOk at hok
  simp only [Bool.and_eq_true, List.all_eq_true] at hok
  have hm : (o, i) ∈ ops.toList.zipIdx := by
    rw [List.mem_iff_getElem?]
    exact ⟨i, by simp [List.getElem?_zipIdx, ho]⟩
  have := hok.2 (o, i) hm
  simp only at this
  have := this e (Array.mem_toList_iff.2 he)
  simpa [hb] using this

theorem unlisted_iff {listed : Array Bool} {j : Nat} (h : j < listed.size) : listed.getD j true = listed.getD j false := by simp [h]

theorem go_perm (hm : MonoR R) (hd : DetR R) (hok : drawOk P ops = true) : ∀ (fuel : Nat) (E : List Evt) (listed : Array Bool) (t : Nat) (x y : List D × St), listed.size = ops.size → E.length ≤ fuel →
    E.map (·.i) = (List.range ops.size).filter (fun j => !listed.getD j true) → (∀ e ∈ E, ops[e.i]? = some e.o) →
    E.Pairwise (fun a b => ((Region.before ops).getD b.i 0).testBit a.i = true ∨ Compat ops a b) → Closed (Region.before ops) listed → RunE T R ops E x y →
    ∃ E', E'.map (·.i) = Region.linearise.go .any ops fuel t listed [] ∧ (∀ e ∈ E', ops[e.i]? = some e.o) ∧ RunE T R ops E' x y
  | 0, E, listed, t, x, y, hsz, hl, hi, ho, hp, hcl, hr => by
    have : E = [] := List.eq_nil_of_length_eq_zero (by omega)
    subst this
    exact ⟨[], by simp [Region.linearise.go], by simp, hr⟩
  | fuel + 1, E, listed, t, x, y, hsz, hl, hi, ho, hp, hcl, hr => by
    have hgo : Region.linearise.go .any ops (fuel + 1) t listed [] = match (Region.ready .any ops listed)[t % (Region.ready .any ops listed).length]? with
        | some i => i :: Region.linearise.go .any ops fuel (t / (Region.ready .any ops listed).length) (listed.setIfInBounds i true) []
        | none => [] := by
      simp only [Region.linearise.go]
      change (match (Region.ready .any ops listed)[t % (Region.ready .any ops listed).length]? with
        | some i => Region.linearise.go .any ops fuel (t / (Region.ready .any ops listed).length) (listed.setIfInBounds i true) [i]
        | none => [].reverse) = _
      split
      · rw [linearise_go_acc]; rfl
      · rfl
    rw [hgo]
    have hmem : ∀ j, j ∈ E.map (·.i) ↔ j < ops.size ∧ listed.getD j true = false := by
      intro j; rw [hi, List.mem_filter, List.mem_range]; simp
    cases hpick : (Region.ready .any ops listed)[t % (Region.ready .any ops listed).length]? with
    | none =>
      have hnil : Region.ready .any ops listed = [] := by
        cases hrr : Region.ready .any ops listed with
        | nil => rfl
        | cons z zs =>
          rw [hrr] at hpick
          have hlt : t % (z :: zs).length < (z :: zs).length := Nat.mod_lt _ (by simp)
          rw [List.getElem?_eq_getElem hlt] at hpick; cases hpick
      have hE : E = [] := by
        cases E with
        | nil => rfl
        | cons e E =>
          exfalso
          have he := (hmem e.i).1 (by simp)
          have hsorted : (E.map (·.i)).all (fun j => decide (e.i < j)) = true := by
            have hs : ((e :: E).map (·.i)).Pairwise (· < ·) := by rw [hi]; exact List.Pairwise.filter _ List.pairwise_lt_range
            rw [List.map_cons, List.pairwise_cons] at hs
            rw [List.all_eq_true]; intro j hj; simpa using hs.1 j hj
          have hready : e.i ∈ Region.ready .any ops listed := by
            rw [mem_ready]
            refine ⟨he.2, e.o, ho e (by simp), fun ed hed hb => ?_⟩
            have hlt := drawOk_edge hok (ho e (by simp)) hed hb
            by_cases hlis : listed.getD ed.on true = false
            · have := (hmem ed.on).2 ⟨by omega, hlis⟩
              rw [List.map_cons] at this
              rcases List.mem_cons.1 this with h | h
              · omega
              · have := List.all_eq_true.1 hsorted _ h
                simp at this; omega
            · rw [← unlisted_iff (by omega)]; simpa using hlis
          rw [hnil] at hready; cases hready
      subst hE
      exact ⟨[], rfl, by simp, hr⟩
    | some i =>
      have hir := List.mem_of_getElem? hpick
      obtain ⟨hun, o, hoi, hedges⟩ := mem_ready.1 hir
      have hisz : i < ops.size := (Array.getElem?_eq_some_iff.1 hoi).1
      have hiE : i ∈ E.map (·.i) := (hmem i).2 ⟨hisz, hun⟩
      obtain ⟨e, heE, hei⟩ := List.mem_map.1 hiE
      obtain ⟨A, B, rfl⟩ := List.append_of_mem heE
      -- whatever must come before i has come
      have hbef : ∀ k, ((Region.before ops).getD i 0).testBit k = true → listed.getD k false = true := by
        intro k hk
        obtain ⟨o', ed, h1, h2, h3, h4⟩ := before_spec hk
        rw [hoi] at h1; injection h1 with h1; subst h1
        have := hedges ed h2 h3
        rcases h4 with rfl | h4
        · exact this
        · exact hcl ed.on k this h4
      have hA : ∀ a ∈ A, Compat ops a e := by
        intro a ha
        have hrel := (List.pairwise_append.1 hp).2.2 a ha e (by simp)
        rcases hrel with h | h
        · rw [hei] at h
          have h1 := hbef _ h
          have h2 := (hmem a.i).1 (List.mem_map.2 ⟨a, by simp [ha], rfl⟩)
          rw [unlisted_iff (by omega), h1] at h2
          cases h2.2
        · exact h
      obtain ⟨z, hz1, hz2⟩ := front hm hd A x y hA hr
      have hnd : ((A ++ e :: B).map (·.i)).Nodup := by
        rw [hi]; exact List.Nodup.sublist List.filter_sublist List.nodup_range
      have hidx : (A ++ B).map (·.i) = (List.range ops.size).filter (fun j => !(listed.setIfInBounds i true).getD j true) := by
        have h1 : (List.range ops.size).filter (fun j => !(listed.setIfInBounds i true).getD j true) = ((List.range ops.size).filter (fun j => !listed.getD j true)).filter (fun j => decide (j ≠ i)) := by
          rw [List.filter_filter]
          apply List.filter_congr
          intro j hj
          have hj : j < ops.size := List.mem_range.1 hj
          by_cases hji : i = j
          · subst hji
            have : i < listed.size := by omega
            simp [this]
          · rw [getD_set_ne true hji]
            have : j ≠ i := fun e => hji e.symm
            simp [this]
        rw [h1, ← hi]
        simp only [List.map_append, List.map_cons, List.filter_append, List.filter_cons, hei]
        simp only [ne_eq, not_true_eq_false, decide_false, Bool.false_eq_true, if_false]
        rw [List.map_append, List.map_cons, hei] at hnd
        have hn := List.nodup_append.1 hnd
        have hB := List.nodup_cons.1 hn.2.1
        rw [List.filter_eq_self.2, List.filter_eq_self.2]
        · intro j hj; simp; exact fun e => hB.1 (e ▸ hj)
        · intro j hj; simp; exact fun e => hn.2.2 j hj i (by simp) e
      have hcl' : Closed (Region.before ops) (listed.setIfInBounds i true) := by
        intro j k hj hk
        by_cases hji : i = j
        · subst hji; exact getD_set_true (hbef k hk)
        · rw [getD_set_ne false hji] at hj
          exact getD_set_true (hcl j k hj hk)
      have hsub : (A ++ B).Sublist (A ++ e :: B) := List.Sublist.append (List.Sublist.refl A) (List.sublist_cons_self e B)
      obtain ⟨E', h1, h2, h3⟩ := go_perm hm hd hok fuel (A ++ B) (listed.setIfInBounds i true) (t / (Region.ready .any ops listed).length) z y (by simpa using hsz) (by simp at hl ⊢; omega) hidx
        (fun e' he' => ho e' (hsub.subset he')) (hp.sublist hsub) hcl' hz2
      exact ⟨e :: E', by simp [hei, h1], fun e' he' => by
        rcases List.mem_cons.1 he' with rfl | he'
        · exact ho _ heE
        · exact h2 e' he', z, hz1, h3⟩

theorem run_list {K : List D → St → Prop} : ∀ (E : List Evt) (x y : List D × St), MonoR R → RunE T R ops E x y → K y.1 y.2 → dList T R true ops K (E.map (·.o)) x.1 x.2
  | [], x, y, hm, h, hk => by
    have h : x = y := h
    subst h; exact hk
  | e :: E, x, y, hm, h, hk => by
    obtain ⟨z, ⟨h1, h2⟩, h3⟩ := h
    have ih := run_list E z y hm h3 hk
    simp only [List.map_cons, dList]
    refine h1 _ ?_
    cases hw : e.w with
    | true =>
      rw [hw] at h2
      obtain ⟨a1, a2, a3, a4⟩ := h2
      simp only [if_true]
      rw [a1]
      refine runR_mono hm (.refl R) (fun d s hh => ?_) a3
      obtain ⟨rfl, rfl⟩ := hh
      rw [← a4]; exact ih
    | false =>
      rw [hw] at h2
      obtain ⟨a1, a2, a3⟩ := h2
      simp only [Bool.false_eq_true, if_false]
      rw [← a3, ← a2]; exact ih

theorem SimD.monoR : MonoR (SimD T) := fun _ _ _ hq h => SimD.mono h hq
theorem SimD.detR : DetR (SimD T) := fun c Q hc h => by
  unfold SimD at h ⊢
  simp only [hc, if_true] at h ⊢
  obtain ⟨r, h1, h2⟩ := h
  exact ⟨r, h1, r, rfl, h2⟩

theorem draw_sim {K : List D → St → Prop} {ts : List D} {s : St} (hok : drawOk T.P ops = true) (h : dDraw T (SimD T) ops (Region.before ops) K 0 [] ops.toList ts s) (t : Nat) :
    ∃ os : List Oper, (Region.schedule (T.P.follows .mixedOrders) ops t).map (fun i => ops[i]?) = os.map some ∧ dList T (SimD T) true ops K os ts s := by
  obtain ⟨es, y, h1, h2, h3, h4, _, h6⟩ := draw_events SimD.monoR SimD.detR ops.toList 0 [] ts s h
  have hlen : es.length = ops.size := by
    have := congrArg List.length h3; simpa using this
  have hidx : es.map (·.i) = List.range ops.size := by rw [h4, List.range_eq_range']; simp
  have hops : ∀ e ∈ es, ops[e.i]? = some e.o := by
    intro e he
    obtain ⟨j, hj⟩ := List.mem_iff_getElem?.1 he
    have hjl : j < es.length := (List.getElem?_eq_some_iff.1 hj).1
    have e1 : (es.map (·.i))[j]? = some e.i := by rw [List.getElem?_map, hj]; rfl
    have e2 : (es.map (·.o))[j]? = some e.o := by rw [List.getElem?_map, hj]; rfl
    rw [hidx] at e1
    rw [h3] at e2
    have : e.i = j := by
      rw [List.getElem?_range (by omega)] at e1; injection e1 with e1; exact e1.symm
    rw [this]; simpa using e2
  obtain ⟨E', g1, g2, g3⟩ := go_perm (P := T.P) SimD.monoR SimD.detR hok ops.size es (Array.replicate ops.size false) t (ts, s) y (by simp) (by omega) (by
    rw [hidx, List.filter_eq_self.2]
    intro j hj
    have : j < ops.size := List.mem_range.1 hj
    simp [this]) hops h6 (by
      intro j k hj
      exfalso
      by_cases hjl : j < ops.size
      · simp [hjl] at hj
      · simp [Array.getElem?_eq_none (show (Array.replicate ops.size false).size ≤ j by simp; omega)] at hj) h2
  have hsch : Region.schedule (T.P.follows .mixedOrders) ops t = Region.linearise .any ops t := by
    unfold drawOk at hok
    simp only [Bool.and_eq_true] at hok
    unfold Region.schedule
    rw [if_pos (by simpa using hok.1)]
  refine ⟨E'.map (·.o), ?_, run_list E' (ts, s) y SimD.monoR g3 h1⟩
  rw [hsch]
  show (Region.linearise.go .any ops ops.size t (Array.replicate ops.size false) []).map _ = _
  rw [← g1, List.map_map, List.map_map]
  exact List.map_congr_left fun e he => g2 e he

end
end Go.DI

