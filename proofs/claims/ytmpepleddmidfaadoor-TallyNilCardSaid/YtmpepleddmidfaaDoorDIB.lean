/-
  Single operations of the evaluator over data: each is sound.
-/
import Derived.Laws.Append
import Derived.Laws.CopyRow
import Derived.Great.BuildSlice
import Derived.MapKept
import Derived.Test.YtmpepleddmidfaaDoorDIA
set_option linter.unusedVariables false
/-
  Operations on the store.
-/
namespace Go.DI
open Go

section
variable {P : Program} {w w' : World} {Γ Γ' : Cx} {s : St}

theorem run_storeCells_gen (g o : Nat) (t : TypeId) (fz : Nat × Nat) : ∀ (vs : List Value) (i : Nat) (cur : Array Value) (w : World), w.heap[g]? = some (.cells cur t fz) →
    (∀ k, k < cur.size → ¬(fz.1 ≤ k ∧ k < fz.2)) → o + i + vs.length ≤ cur.size → (∀ v ∈ vs, v.oneCell' = true) →
    (storeCells ⟨g, o, none⟩ vs i).run P w = .ok () (w.setRow g (cur.toList.take (o + i) ++ vs ++ cur.toList.drop (o + i + vs.length)).toArray)
  | [], i, cur, w, hg, _, _, _ => by
    simp only [storeCells, List.append_nil, List.length_nil, Nat.add_zero, List.take_append_drop, Array.toArray_toList]
    rw [setRow_self w g cur t fz hg]
    rfl
  | v :: rest, i, cur, w, hg, hz, hl, h1 => by
    have hi : o + i < cur.size := by simp at hl; omega
    have hcell : w.cell? ⟨g, o + i, none⟩ = some cur[o + i] := by simp [World.cell?, hg, hi]
    have hfro : w.frozen? ⟨g, o + i, none⟩ = false := by
      have := hz (o + i) hi
      obtain ⟨lo, hh⟩ := fz
      simp only [World.frozen?, hg, Bool.and_eq_false_iff, decide_eq_false_iff_not]
      simp only at this
      omega
    have hst : (store ((⟨g, o, none⟩ : Addr).add i) v).run P w = .ok () (w.setRow g (cur.setIfInBounds (o + i) v)) := by
      rw [addr_add, run_store P w _ v _ (h1 v (by simp)), hcell]
      simp [hfro, setCell_eq_setRow w g (o + i) cur t fz v hg]
    have ih := run_storeCells_gen g o t fz rest (i + 1) (cur.setIfInBounds (o + i) v) (w.setRow g (cur.setIfInBounds (o + i) v)) (setRow_heap w g cur _ t _ hg) (fun k hk => hz k (by simpa using hk)) (by simp at hl ⊢; omega) (fun x hx => h1 x (by simp [hx]))
    simp only [storeCells, Sem.run_bind, hst, Result.andThen_ok, ih, setRow_setRow]
    congr 3
    have e := list_seg_step cur.toList (o + i) v rest (by simp at hl ⊢; omega)
    simpa [Array.toList_setIfInBounds, Nat.add_assoc] using e

theorem only_setRow (w : World) (g : Nat) (cs : Array Value) : Only w (w.setRow g cs) g :=
  ⟨rfl, rfl, rfl, by simp, fun c _ hne => setRow_other w g c cs hne⟩

theorem fillL_eq : ∀ (vs : List D) (cs : List D) (off : Nat), off + vs.length ≤ cs.length → fillL cs off vs = cs.take off ++ vs ++ cs.drop (off + vs.length)
  | [], cs, off, _ => by simp [fillL]
  | v :: vs, cs, off, h => by
    simp only [List.length_cons] at h
    rw [fillL, fillL_eq vs (cs.set off v) (off + 1) (by simp; omega)]
    apply List.ext_getElem?
    intro k
    have hl1 : ((cs.set off v).take (off + 1) ++ vs).length = off + 1 + vs.length := by simp; omega
    by_cases h1 : k < off
    · rw [List.getElem?_append_left (by omega), List.getElem?_append_left (by simp; omega), List.getElem?_append_left (by simp; omega), List.getElem?_append_left (by simp; omega)]
      rw [List.getElem?_take, List.getElem?_take, if_pos (by omega), if_pos h1, List.getElem?_set_ne (by omega)]
    · by_cases h2 : k = off
      · subst h2
        rw [List.getElem?_append_left (by omega), List.getElem?_append_left (by simp; omega), List.getElem?_take, if_pos (by omega), List.getElem?_set_self (by omega)]
        rw [List.getElem?_append_left (by simp; omega), List.getElem?_append_right (by simp; omega)]
        have : k - (List.take k cs).length = 0 := by simp; omega
        rw [this]; rfl
      · by_cases h3 : k < off + 1 + vs.length
        · rw [List.getElem?_append_left (by omega), List.getElem?_append_right (by simp; omega), List.getElem?_append_left (by simp; omega), List.getElem?_append_right (by simp; omega)]
          have e1 : k - (List.take (off + 1) (cs.set off v)).length = k - (off + 1) := by simp; omega
          have e2 : k - (List.take off cs).length = (k - (off + 1)) + 1 := by simp; omega
          rw [e1, e2]; simp
        · rw [List.getElem?_append_right (by omega), List.getElem?_append_right (by simp; omega), hl1]
          have e1 : (List.take off cs ++ v :: vs).length = off + 1 + vs.length := by simp; omega
          rw [e1, List.getElem?_drop, List.getElem?_drop, List.getElem?_set_ne (by omega)]
          congr 1
          simp only [List.length_cons]; omega

theorem run_loadVar {t : TypeId} {b off : Nat} {arr : Array Value} {t0 : TypeId} {fz : Nat × Nat} {cs : List D} {d : D} (hok : okT P t = true) (hg : w.heap[b]? = some (.cells arr t0 fz)) (hr : RepL (Rep Γ) arr.toList cs)
    (hd : (if isAggT P t then (if off + P.cellsOf t ≤ cs.length then some (mkAgg ((cs.drop off).take (P.cellsOf t))) else none) else cs[off]?) = some d) :
    ∃ v, (loadVar t ⟨b, off, none⟩).run P w = .ok v w ∧ Rep Γ v d := by
  simp only [loadVar, Sem.run_bind, run_agg hok, Result.andThen_ok]
  cases ha : isAggT P t with
  | true =>
    simp only [ha, if_true] at hd ⊢
    split at hd <;> simp at hd
    subst hd
    rename_i hle
    have hsz : arr.toList.length = cs.length := hr.1
    have hlen : ((arr.toList.drop off).take (P.cellsOf t)).length = P.cellsOf t := by simp at hsz ⊢; omega
    have hl := run_loadCells_list (P := P) w ⟨b, off, none⟩ ((arr.toList.drop off).take (P.cellsOf t)) (fun j v hv => by
      rw [addr_add]
      rw [List.getElem?_take] at hv
      split at hv
      · rw [List.getElem?_drop] at hv
        simp only [World.cell?, hg]; simpa using hv
      · simp at hv)
    rw [hlen] at hl
    refine ⟨.agg ((arr.toList.drop off).take (P.cellsOf t)).toArray, ?_, mkAgg_rep (by simpa using (hr.drop off).take _)⟩
    simp [run_size hok, hl]
  | false =>
    simp only [ha, Bool.false_eq_true, if_false] at hd ⊢
    obtain ⟨v, hv, hr'⟩ := hr.get hd
    have : w.cell? ⟨b, off, none⟩ = some v := by simp only [World.cell?, hg]; simpa using hv
    exact ⟨v, by simp [this], hr'⟩

theorem g_load {a : Act} {o : Oper} {t : TypeId} {x : Operand} {ts : List D} {id off : Nat} {d : D} {s' : St} (ho : o.op = .load t x) (hs : Sat Γ w s) (ha : RepA Γ a ts)
    (hx : ev ts x = .ptr id off) (hok : okT P t = true) (he : exec P (.load id off (P.cellsOf t) (isAggT P t)) s = .val d s') : Good P Γ a o w s' d := by
  simp only [exec] at he
  split at he <;> try (simp at he; done)
  rename_i cs t0 hob
  obtain ⟨b, hb, arr, hg, hr, _⟩ := hs.get_ρ hob
  have hv := ev_rep ha x
  rw [hx] at hv
  obtain ⟨b', hv', hb'⟩ := hv.ptr_inv
  rw [hb] at hb'; cases hb'
  have hd : s' = s ∧ (if isAggT P t then (if off + P.cellsOf t ≤ cs.length then some (mkAgg ((cs.drop off).take (P.cellsOf t))) else none) else cs[off]?) = some d := by
    split at he
    · rename_i hw
      split at he <;> simp at he
      rename_i hle
      exact ⟨he.2.symm, by rw [if_pos hw, if_pos hle, he.1]⟩
    · rename_i hw
      split at he <;> simp at he
      rename_i d' hd'
      exact ⟨he.2.symm, by rw [if_neg hw, hd', he.1]⟩
  obtain ⟨rfl, hd⟩ := hd
  obtain ⟨v, h1, h2⟩ := run_loadVar (w := w) hok hg hr hd
  exact .pure (by simp [execOp, ho, hv', Instr.loadAt, Instr.sureAddr, h1]) h2 hs

theorem g_loadc {a : Act} {o : Oper} {t : TypeId} {x : Operand} {ts : List D} {sz i off : Nat} {es : List Dt} {e : Dt} {d : D} (ho : o.op = .load t x) (hs : Sat Γ w s) (ha : RepA Γ a ts)
    (hx : ev ts x = .cptr sz es i off) (he : es[i]? = some e) (hd : partD P t (e.cells.map .pv) off = some d) : Good P Γ a o w s d := by
  have hv := ev_rep ha x
  rw [hx] at hv
  cases hv' : a.eval x with
  | pointer p =>
    rw [hv'] at hv
    cases hv with
    | cptr val he' hm hr =>
      rename_i b o' e'
      rw [he] at he'; cases he'
      unfold partD at hd
      split at hd
      · simp at hd
      rename_i hok
      have hok : okT P t = true := by simpa using hok
      have hcell : ∀ j, j < e.cells.length → w.cell? ⟨b, o' + j, none⟩ = some (val j) := fun j hj => hs.mem _ _ _ (hm j hj)
      simp only [List.length_map] at hd
      have hrep : RepL (Rep Γ) ((List.range e.cells.length).map val) (e.cells.map .pv) := by
        refine ⟨by simp, fun j v c hv hc => ?_⟩
        have hj : j < e.cells.length := by have := (List.getElem?_eq_some_iff.1 hc).1; simpa using this
        rw [List.getElem?_map] at hc
        cases hcc : e.cells[j]? with
        | none => simp [hcc] at hc
        | some c' =>
          simp [hcc] at hc; subst hc
          simp [hj] at hv; subst hv
          exact .pv (hr j c' hcc).1
      cases hagg : isAggT P t with
      | true =>
        simp only [hagg, if_true] at hd
        split at hd <;> simp at hd
        subst hd
        rename_i hle
        have hl := run_loadCells (P := P) w ⟨b, o' + off, none⟩ (P.cellsOf t) (fun j => val (off + j)) (fun j hj => by rw [addr_add, Nat.add_assoc]; exact hcell _ (by omega))
        have hseg : (List.range (P.cellsOf t)).map (fun j => val (off + j)) = (((List.range e.cells.length).map val).drop off).take (P.cellsOf t) := by
          apply List.ext_getElem?
          intro j
          by_cases hj : j < P.cellsOf t
          · simp [hj, List.getElem?_drop, show off + j < e.cells.length by omega]
          · simp [List.getElem?_take, hj]
        refine .pure (v := .agg ((List.range (P.cellsOf t)).map (fun j => val (off + j))).toArray) ?_ (mkAgg_rep ?_) hs
        · simp [execOp, ho, hv', Instr.loadAt, Instr.sureAddr, loadVar, run_agg hok, hagg, run_size hok, hl]
        · rw [List.toList_toArray, hseg]
          exact (hrep.drop off).take (P.cellsOf t)
      | false =>
        simp only [hagg, Bool.false_eq_true, if_false] at hd
        obtain ⟨v, h1, h2⟩ := hrep.get hd
        have hj : off < e.cells.length := by have := (List.getElem?_eq_some_iff.1 hd).1; simpa using this
        simp [hj] at h1; subst h1
        exact .pure (v := val off) (by simp [execOp, ho, hv', Instr.loadAt, Instr.sureAddr, loadVar, run_agg hok, hagg, hcell off hj]) h2 hs
  | _ => rw [hv'] at hv; cases hv

theorem g_store {a : Act} {o : Oper} {t : TypeId} {x y : Operand} {ts : List D} {id off : Nat} {d : D} {s' : St} (ho : o.op = .store t x y) (hs : Sat Γ w s) (ha : RepA Γ a ts)
    (hx : ev ts x = .ptr id off) (hok : okT P t = true) (hl : (ev ts y).cells.length = P.cellsOf t) (h1 : (ev ts y).cells.all D.one = true)
    (he : exec P (.store id off (ev ts y).cells) s = .val d s') : Good P Γ a o w s' d := by
  simp only [exec] at he
  split at he <;> try (simp at he; done)
  rename_i cs t0 hob
  split at he <;> simp at he
  rename_i hle
  obtain ⟨rfl, rfl⟩ := he
  obtain ⟨b, hb, arr, hg, hr, hone⟩ := hs.get_ρ hob
  have hv := ev_rep ha x
  rw [hx] at hv
  obtain ⟨b', hv', hb'⟩ := hv.ptr_inv
  rw [hb] at hb'; cases hb'
  have hy := cells_rep (ev_rep ha y) h1
  have hlen : (a.eval y).cells.toList.length = P.cellsOf t := by rw [hy.1, hl]
  have hasz : arr.size = cs.length := by have := hr.1; simpa using this
  have honev : ∀ v ∈ (a.eval y).cells.toList, v.oneCell' = true := by
    intro v hv
    obtain ⟨j, hj⟩ := List.mem_iff_getElem?.1 hv
    have hjl : j < (ev ts y).cells.length := by rw [← hy.1]; exact (List.getElem?_eq_some_iff.1 hj).1
    have hc := List.getElem?_eq_getElem hjl
    have := List.all_eq_true.1 h1 _ (List.mem_of_getElem? hc)
    exact (oneCell_of_oneD (hy.2 j v _ hj hc) this).1
  have hst := run_storeCells_gen (P := P) b off t0 (0, 0) (a.eval y).cells.toList 0 arr w hg (fun k _ h => by omega) (by rw [hy.1]; omega) honev
  simp only [Nat.add_zero] at hst
  obtain ⟨hsat, hfwd⟩ := hs.put (ob := .cells (fillL cs off (ev ts y).cells) t0) hb (only_setRow w b (arr.toList.take off ++ (a.eval y).cells.toList ++ arr.toList.drop (off + (a.eval y).cells.toList.length)).toArray)
    ⟨_, setRow_heap w b arr _ t0 _ hg, by
      rw [fillL_eq _ _ _ hle, List.toList_toArray, hy.1]
      exact ((hr.take off).append hy).append (hr.drop _), by
      intro c hc
      rw [fillL_eq _ _ _ hle] at hc
      simp only [List.mem_append] at hc
      rcases hc with (hc | hc) | hc
      · exact hone c (List.mem_of_mem_take hc)
      · exact .inl (List.all_eq_true.1 h1 c hc)
      · exact hone c (List.mem_of_mem_drop hc)⟩
  refine ⟨undef, _, Γ, .inr ⟨?_, rfl⟩, undef_rep, hsat, hfwd⟩
  have hsz : (a.eval y).cells.size = P.cellsOf t := by simpa using hlen
  simp [execOp, ho, hv', Instr.storeAt, Instr.sureAddr, storeVar, run_size hok, hsz, hst]

/-- a new variable -/
theorem sat_alloc (hs : Sat Γ w s) {vs : Array Value} {cs : List D} {t : TypeId} (hr : RepL (Rep Γ) vs.toList cs) (h1 : cs.all D.one = true) :
    Sat (Γ.addρ w.heap.size) (w.alloc (.cells vs t)) (s.add (.cells cs t)) ∧ Fwd Γ w (Γ.addρ w.heap.size) (w.alloc (.cells vs t)) ∧
    Rep (Γ.addρ w.heap.size) (.pointer (some ⟨w.heap.size, 0, none⟩)) (.ptr s.obs.length 0) := by
  obtain ⟨hsat, hfwd⟩ := hs.add (o := .cells vs t) (ob := .cells cs t) ⟨vs, heap_alloc_self w _, hr.mono fun _ _ => Rep.addρ, fun c hc => .inl (List.all_eq_true.1 h1 c hc)⟩
  exact ⟨hsat, hfwd, .ptr (by rw [← hs.len]; exact get_append_self _ _)⟩

theorem zeroD_rep {t : TypeId} {z : D} (h : zeroD P t = some z) : ∃ v i, P.info? t = some i ∧ i.zero = some v ∧ Rep Γ v z := by
  unfold zeroD at h
  split at h <;> try (simp at h; done)
  rename_i i hi
  split at h <;> simp at h
  rename_i v hv
  subst h
  exact ⟨v, i, hi, hv, constD_rep v⟩

theorem g_alloc {a : Act} {o : Oper} {t : TypeId} {z : D} (ho : o.op = .alloc t) (hs : Sat Γ w s) (hz : zeroD P t = some z) (h1 : z.cells.all D.one = true) :
    Good P Γ a o w (s.add (.cells z.cells t)) (.ptr s.obs.length 0) := by
  obtain ⟨v, i, hi, hv, hr⟩ := zeroD_rep (Γ := Γ) hz
  obtain ⟨hsat, hfwd, hrep⟩ := sat_alloc hs (t := t) (cells_rep hr h1) h1
  refine ⟨_, _, _, .inl ?_, hrep, hsat, hfwd⟩
  simp [execOp, ho, Instr.alloc, run_zero hi hv, newVar, newRow]

theorem g_box {a : Act} {o : Oper} {t : TypeId} {x : Operand} {ts : List D} (ho : o.op = .box t x) (hs : Sat Γ w s) (ha : RepA Γ a ts) (h1 : (ev ts x).cells.all D.one = true) :
    Good P Γ a o w (s.add (.cells (ev ts x).cells t)) (.ptr s.obs.length 0) := by
  obtain ⟨hsat, hfwd, hrep⟩ := sat_alloc hs (t := t) (cells_rep (ev_rep ha x) h1) h1
  refine ⟨_, _, _, .inl ?_, hrep, hsat, hfwd⟩
  simp [execOp, ho, Instr.box, newVar, newRow]

end
end Go.DI

/-
  append, slice literals.
-/
namespace Go.DI
open Go

section
variable {P : Program} {w w' : World} {Γ Γ' : Cx} {s : St}

theorem zeroOk_info {e : TypeId} (h : zeroOk P e = true) : ∃ i z, P.info? e = some i ∧ i.zero = some z ∧ z.cells.size = P.cellsOf e ∧ i.size = P.cellsOf e ∧ i.bytes = P.bytesOf e := by
  unfold zeroOk at h
  split at h <;> try (simp at h; done)
  rename_i i hi
  split at h <;> try (simp at h; done)
  rename_i z hz
  exact ⟨i, z, hi, hz, by simpa using h, by simp [Program.cellsOf, hi], by simp [Program.bytesOf, hi]⟩

/-- what is appended, as the machine reads it: n elements, their cells -/
structure Reads (P : Program) (u : TypeId) (x : Value) (size n : Nat) (news : List Value) (w : World) : Prop where
  und : (∃ e', P.underlying u = some (.slice e')) ∨ P.underlying u = some .string
  len : ∀ w', (Builtin.lenOf x).run P w' = .ok n w'
  cells : ∀ w', w'.heap = w.heap → (Builtin.firstCells size n x).run P w' = .ok news.toArray w'
  size : news.length = n * size

theorem run_append_in {ats : Array TypeId} {t u ty e : TypeId} (hat0 : ats[0]? = some t) (hat1 : ats[1]? = some u) {x : Value} {base : Option Addr} {sLen sCap n : Nat} {news : List Value} (ht : P.underlying t = some (.slice e)) (hp : 0 < P.cellsOf e)
    (hx : Reads P u x (P.cellsOf e) n news w) (hle : sLen + n ≤ sCap) :
    (Builtin.append_ ats ty #[.slice base sLen sCap, x]).run P w =
      (match base with | some a => (storeCells (a.add (sLen * P.cellsOf e)) news).run P w | none => .ok () w).andThen fun _ w' => .ok (.slice base (sLen + n) sCap) w' := by
  rcases hx.und with ⟨e', hd⟩ | hd <;> cases base <;>
    simp [Builtin.append_, hat0, hat1, run_und ht, run_size' hp, run_und hd, hx.len, hle, hx.cells w rfl]

theorem run_append_new {ats : Array TypeId} {t u ty e : TypeId} (hat0 : ats[0]? = some t) (hat1 : ats[1]? = some u) {x : Value} {base : Option Addr} {sLen sCap n : Nat} {olds news : List Value} (ht : P.underlying t = some (.slice e)) (hp : 0 < P.cellsOf e)
    (hx : Reads P u x (P.cellsOf e) n news w) {i : TypeInfo} {z : Value} (hi : P.info? e = some i) (hz : i.zero = some z) (hgt : sCap < sLen + n)
    (hol : olds.length = sLen * P.cellsOf e) (hold : ∀ a, base = some a → ∀ j v, olds[j]? = some v → w.cell? (a.add j) = some v) (hnone : base = none → sLen = 0)
    (hb : (sLen + n) * P.bytesOf e ≤ limit) (hl : sLen + n ≤ limit) :
    ∃ cap, sLen + n ≤ cap ∧ (Builtin.append_ ats ty #[.slice base sLen sCap, x]).run P w =
      .ok (.slice (some ⟨w.heap.size, 0, none⟩) (sLen + n) cap) (w.drew.alloc (.cells (olds.toArray ++ news.toArray ++ Builtin.zeroCells z.cells (cap - (sLen + n))) e)) := by
  have hby : i.bytes = P.bytesOf e := by simp [Program.bytesOf, hi]
  have hn : ¬ (sLen + n ≤ sCap) := by omega
  have h63' : ¬ (IntKind.i64.max < ((sLen : Int) + (n : Int))) := by
    have : (IntKind.i64.max : Int) = 9223372036854775807 := by decide
    rw [this]; unfold limit at hl; omega
  have h48' : ¬ (281474976710656 < Builtin.nextslicecap (sLen + n) sCap * P.bytesOf e) := by
    have := growslice_fits (need := sLen + n) (old := sCap) (bytes := P.bytesOf e) hgt (by unfold limit at hb; omega)
    omega
  have hfo : ∀ w', w'.heap = w.heap → (Builtin.firstCells (P.cellsOf e) sLen (.slice base sLen sCap)).run P w' = .ok olds.toArray w' := by
    intro w' hw
    cases base with
    | none =>
      have := hnone rfl
      subst this
      have : olds = [] := List.eq_nil_of_length_eq_zero (by simpa using hol)
      subst this
      simp [Builtin.firstCells]
    | some b =>
      exact run_firstCells_some w' _ sLen b sLen sCap olds hol (fun j v hv => by
        have := hold b rfl j v hv
        unfold World.cell? at this ⊢; rw [hw]; exact this)
  refine ⟨(Question.appendCap (sLen + n) sCap e).cut (w.tape w.drawn (.appendCap (sLen + n) sCap e)), by simp [Question.cut], ?_⟩
  have h1 := hx.cells w.drew rfl
  have h2 := hfo w.drew rfl
  have h63'' : ¬ (9223372036854775807 < ((sLen : Int) + (n : Int))) := by unfold limit at hl; omega
  rcases hx.und with ⟨e', hd⟩ | hd
  · simp [Builtin.append_, hat0, hat1, run_und ht, run_size' hp, run_und hd, hx.len, hn, h63'', typeInfo, hi, hby, h48', Question.forced, h1, h2, zeroValue, hz, newRow]
    congr 2
    apply Array.ext'
    simp [List.append_assoc]
  · simp [Builtin.append_, hat0, hat1, run_und ht, run_size' hp, run_und hd, hx.len, hn, h63'', typeInfo, hi, hby, h48', Question.forced, h1, h2, zeroValue, hz, newRow]
    congr 2
    apply Array.ext'
    simp [List.append_assoc]

/-- what is appended is data -/
def SrcOk (P : Program) (Γ : Cx) (w : World) (u e : TypeId) (x : Value) (ys : List Dt) : Prop :=
  ∃ news, Reads P u x (P.cellsOf e) ys.length news w ∧ RepL (RepT Γ.M) news (flat ys) ∧ Fit (P.cellsOf e) ys

theorem fc_at {size n : Nat} {b : Addr} {len cap : Nat} {cs : List Value} (hl : cs.length = n * size) (h : ∀ j v, cs[j]? = some v → w.cell? (b.add j) = some v) :
    ∀ w', w'.heap = w.heap → (Builtin.firstCells size n (.slice (some b) len cap)).run P w' = .ok cs.toArray w' := by
  intro w' hw
  exact run_firstCells_some w' size n b len cap cs hl (fun j v hv => by have := h j v hv; unfold World.cell? at this ⊢; rw [hw]; exact this)

theorem RepT.slc_addr {M : Mem} {v : Value} {sz : Nat} {es : List Dt} (h : RepT M v (.slc sz false es)) : ∃ a len cap, v = .slice (some a) len cap := by
  cases h; exact ⟨_, _, _, rfl⟩

theorem src_list (hs : Sat Γ w s) {u e e' : TypeId} {x : Value} {d : D} {sz : Nat} {nl : Bool} {ys : List Dt} (hu : P.underlying u = some (.slice e')) (hx : Rep Γ x d) (hl : listOf d = some (sz, nl, ys))
    (hsz : sz = P.cellsOf e ∨ nl = true) : SrcOk P Γ w u e x ys := by
  have hr := listOf_rep hx hl
  cases nl with
  | true =>
    cases hr
    exact ⟨[], ⟨.inl ⟨e', hu⟩, fun _ => rfl, fun w' _ => by simp [Builtin.firstCells], by simp⟩, .nil, fun e he => by simp at he⟩
  | false =>
    have hsz' : sz = P.cellsOf e := by rcases hsz with h | h; exact h; cases h
    subst hsz'
    obtain ⟨a, len, cap, rfl⟩ := hr.slc_addr
    obtain ⟨h1, h2, hf, b, o, vals, ha, hv, hM⟩ := hr.to_cells
    subst h1
    have hvl : vals.length = ys.length * P.cellsOf e := by rw [hv.1, flat_len hf]
    refine ⟨vals, ⟨.inl ⟨e', hu⟩, fun _ => rfl, fc_at hvl (fun j v hj => ?_), hvl⟩, hv, hf⟩
    have hj' : j < ys.length * P.cellsOf e := by rw [← hvl]; exact (List.getElem?_eq_some_iff.1 hj).1
    rw [ha (Nat.pos_of_ne_zero fun h => by rw [h] at hj'; simp at hj'), addr_add]
    exact hs.mem _ _ _ ((hM j hj').trans hj)

theorem src_str {u e : TypeId} {x : Value} {l : List UInt8} (hu : P.underlying u = some .string) (hx : Rep Γ x (.pv (.str l))) (he : P.cellsOf e = 1) : SrcOk P Γ w u e x (l.map byteD) := by
  obtain ⟨str, rfl, hl⟩ := hx.pv_inv.str_inv
  have hsz : str.size = l.length := by rw [← hl]; exact (Array.length_toList (xs := str.data)).symm
  have hf : Fit (P.cellsOf e) (l.map byteD) := by
    intro c hc
    obtain ⟨b, _, rfl⟩ := List.mem_map.1 hc
    rw [he]; simp [byteD, Dt.cells, Dt.one]
  have hfl : flat (l.map byteD) = l.map byteD := by
    unfold flat
    rw [List.flatMap_map]
    have : ∀ m : List UInt8, m.flatMap (fun b => (byteD b).cells) = m.map byteD := by
      intro m
      induction m with
      | nil => rfl
      | cons a m ih => rw [List.flatMap_cons, ih]; rfl
    exact this l
  refine ⟨l.map (fun b => .int .u8 (b.toNat : Int)), ⟨.inr hu, fun _ => by simp [Builtin.lenOf, hsz], fun w' _ => ?_, by simp [he]⟩, ?_, hf⟩
  · simp only [Builtin.firstCells, Sem.run_pure]
    congr 1
    apply Array.ext'
    have : str.extract 0 (l.map byteD).length = str := by
      apply ByteArray.ext
      rw [ByteArray.data_extract, List.length_map, ← hsz]
      exact Array.extract_size
    rw [this, Array.toList_map, hl]
  · rw [hfl]
    refine ⟨by simp, fun i v d hv hd => ?_⟩
    rw [List.getElem?_map] at hv hd
    cases hb : l[i]? with
    | none => simp [hb] at hv
    | some b => simp [hb] at hv hd; subst hv; subst hd; exact .int

theorem chunks_ok : ∀ {sz n : Nat} {cs : List D} {ys : List Dt} {vs : List Value}, 0 < sz → chunks sz n cs = some ys → n * sz ≤ cs.length → RepL (Rep Γ) vs cs → (∀ c ∈ cs, c.one = true ∨ c = .junk) →
    ys.length = n ∧ Fit sz ys ∧ RepL (RepT Γ.M) (vs.take (n * sz)) (flat ys)
  | sz, 0, cs, ys, vs, _, h, _, _, _ => by
    simp [chunks] at h; subst h
    exact ⟨rfl, fun e he => by simp at he, by simpa [flat] using RepL.nil⟩
  | sz, n + 1, cs, ys, vs, hz, h, hl, hr, hone => by
    simp only [chunks] at h
    split at h <;> try (simp at h; done)
    rename_i l hom
    split at h <;> try (simp at h; done)
    rename_i r hrec
    simp only [Option.some.injEq] at h
    have hl' : sz ≤ cs.length := by rw [Nat.add_mul] at hl; omega
    have hll : l.length = sz := by rw [omap_length hom]; simp; omega
    have h1 : RepL (RepT Γ.M) (vs.take sz) l := (hr.take sz).omap (R' := RepT Γ.M) (f := D.pv?) (fun v d e hv he => by
      cases d <;> simp [D.pv?] at he
      subst he; exact hv.pv_inv) hom
    have hlone : ∀ c ∈ l, c.one = true := by
      intro c hc
      obtain ⟨i, hi⟩ := List.mem_iff_getElem?.1 hc
      have hi' : i < (cs.take sz).length := by rw [← omap_length hom]; exact (List.getElem?_eq_some_iff.1 hi).1
      have hd := List.getElem?_eq_getElem hi'
      have := omap_get hom i _ c hd hi
      cases hdd : (cs.take sz)[i] with
      | pv x =>
        rw [hdd] at this; simp [D.pv?] at this; subst this
        rcases hone (.pv x) (by rw [← hdd]; exact List.mem_of_mem_take (List.mem_of_getElem? hd)) with h | h
        · simpa [D.one] using h
        · cases h
      | _ => rw [hdd] at this; simp [D.pv?] at this
    obtain ⟨i1, i2, i3⟩ := chunks_ok hz hrec (by rw [Nat.add_mul] at hl; simp; omega) (hr.drop sz) (fun c hc => hone c (List.mem_of_mem_drop hc))
    have hcells : (if sz = 1 then l.headD (.tup []) else Dt.agg l).cells = l := by
      split
      · rename_i e; subst e
        match l, hll, hlone with
        | [c], _, hlone =>
          have := hlone c (by simp)
          cases c <;> simp_all [Dt.cells, Dt.one]
      · rfl
    subst h
    refine ⟨by simp [i1], fun e he => ?_, ?_⟩
    · rcases List.mem_cons.1 he with rfl | he
      · rw [hcells]; exact ⟨hll, hlone⟩
      · exact i2 e he
    · have : flat ((if sz = 1 then l.headD (.tup []) else Dt.agg l) :: r) = l ++ flat r := by
        unfold flat; rw [List.flatMap_cons, hcells]
      rw [this]
      have e2 : vs.take ((n + 1) * sz) = vs.take sz ++ (vs.drop sz).take (n * sz) := by
        rw [Nat.add_mul, Nat.one_mul, Nat.add_comm, List.take_add]
      rw [e2]
      exact h1.append i3

theorem src_mem (hs : Sat Γ w s) {u e e' : TypeId} {x : Value} {id off n : Nat} {ys : List Dt} (hu : P.underlying u = some (.slice e')) (hx : Rep Γ x (.msl id off n (P.cellsOf e))) (hp : 0 < P.cellsOf e)
    (hl : memList s id off n (P.cellsOf e) = some ys) : SrcOk P Γ w u e x ys := by
  unfold memList at hl
  split at hl <;> try (simp at hl; done)
  rename_i cs t0 hob
  split at hl <;> try (simp at hl; done)
  rename_i hle
  obtain ⟨b, hb, arr, hg, hr, hone⟩ := hs.get_ρ hob
  obtain ⟨h1, h2, h3⟩ := chunks_ok hp hl (by simp; omega) (hr.drop off) (fun c hc => hone c (List.mem_of_mem_drop hc))
  cases hx with
  | msl hsp hc hpos =>
    rename_i a cap
    have hlen : ((arr.toList.drop off).take (n * P.cellsOf e)).length = ys.length * P.cellsOf e := by
      have := hr.1
      rw [h1]; simp at this ⊢; omega
    by_cases hn : n = 0
    · subst hn
      have : ys = [] := List.eq_nil_of_length_eq_zero h1
      subst this
      exact ⟨[], ⟨.inl ⟨e', hu⟩, fun _ => rfl, fun w' _ => by simp [Builtin.firstCells, loadCells, loadCellsFrom], by simp⟩, .nil, fun e he => by simp at he⟩
    obtain ⟨p1, p2, p3⟩ := hpos (by omega)
    rw [hb] at p1; injection p1 with p1
    obtain ⟨ab, ao, asp⟩ := a
    simp only at p1 p2 p3
    subst p1; subst p2; subst p3
    refine ⟨_, ⟨.inl ⟨e', hu⟩, fun _ => by simp [Builtin.lenOf, h1], fc_at hlen (fun j v hj => ?_), hlen⟩, h3, h2⟩
    rw [addr_add]
    rw [List.getElem?_take] at hj
    split at hj
    · rw [List.getElem?_drop] at hj
      simp only [World.cell?, hg]; simpa using hj
    · simp at hj

end
end Go.DI

/-
  append at the level of the operation; conversions to bytes; literals.
-/
namespace Go.DI
open Go

section
variable {P : Program} {w w' : World} {Γ Γ' : Cx} {s : St}

theorem flat_append (a b : List Dt) : flat (a ++ b) = flat a ++ flat b := by unfold flat; simp

theorem Fit.append {sz : Nat} {a b : List Dt} (ha : Fit sz a) (hb : Fit sz b) : Fit sz (a ++ b) := fun e he => by
  rcases List.mem_append.1 he with h | h
  · exact ha e h
  · exact hb e h

theorem flat_one {sz : Nat} {es : List Dt} (h : Fit sz es) : ∀ c ∈ flat es, c.one = true := by
  intro c hc
  obtain ⟨e, he, hce⟩ := List.mem_flatMap.1 hc
  exact (h e he).2 c hce

theorem vals_one {M : Mem} {vals : List Value} {cs : List Dt} (h : RepL (RepT M) vals cs) (h1 : ∀ c ∈ cs, c.one = true) : ∀ v ∈ vals, v.oneCell' = true := by
  intro v hv
  obtain ⟨j, hj⟩ := List.mem_iff_getElem?.1 hv
  have hjl : j < cs.length := by rw [← h.1]; exact (List.getElem?_eq_some_iff.1 hj).1
  have hc := List.getElem?_eq_getElem hjl
  exact (oneCell_of_one (h.2 j v _ hj hc) (h1 _ (List.mem_of_getElem? hc))).1

/-- the old elements of a slice, as the machine reads them -/
theorem olds_of (hs : Sat Γ w s) {v : Value} {sz : Nat} {nl : Bool} {es : List Dt} (h : RepT Γ.M v (.slc sz nl es)) {size : Nat} (hsz : sz = size ∨ nl = true) :
    ∃ base cap olds, v = .slice base es.length cap ∧ es.length ≤ cap ∧ olds.length = es.length * size ∧ RepL (RepT Γ.M) olds (flat es) ∧ Fit size es ∧
      (∀ a, base = some a → ∀ j u, olds[j]? = some u → w.cell? (a.add j) = some u) ∧ (base = none → es.length = 0 ∧ cap = 0) := by
  cases nl with
  | true =>
    cases h
    exact ⟨none, 0, [], rfl, Nat.le_refl _, by simp, .nil, fun e he => by simp at he, fun a h => by simp at h, fun _ => ⟨rfl, rfl⟩⟩
  | false =>
    have hsz' : sz = size := by rcases hsz with h | h; exact h; cases h
    subst hsz'
    obtain ⟨a, len, cap, rfl⟩ := h.slc_addr
    obtain ⟨h1, h2, hf, b, o, vals, ha, hv, hM⟩ := h.to_cells
    subst h1
    have hvl : vals.length = es.length * sz := by rw [hv.1, flat_len hf]
    refine ⟨some a, cap, vals, rfl, h2, hvl, hv, hf, fun a' ha' j u hj => ?_, fun h => by simp at h⟩
    injection ha' with ha'; subst ha'
    have hj' : j < es.length * sz := by rw [← hvl]; exact (List.getElem?_eq_some_iff.1 hj).1
    rw [ha (Nat.pos_of_ne_zero fun h => by rw [h] at hj'; simp at hj'), addr_add]
    exact hs.mem _ _ _ ((hM j hj').trans hj)

theorem addM_at {M : Mem} {n : Nat} {arr : Array Value} {lim o : Nat} (h : o < lim) : addM M n arr lim n o = arr[o]? := by
  unfold addM; rw [if_pos rfl, if_pos h]

theorem Rep.own_inv {v : Value} {id sz : Nat} {es : List Dt} (h : Rep Γ v (.own id sz es)) : ∃ b cap fill, RepT Γ.M v (.slc sz false es) ∧ Γ.β[id]? = some (b, cap, fill) ∧ es.length ≤ fill ∧
    (es.length = fill → v = .slice (some ⟨b, 0, none⟩) es.length cap) := by
  cases h; exact ⟨_, _, _, by assumption, by assumption, by assumption, by assumption⟩

theorem Rep.exa_inv {v : Value} {sz : Nat} {nl : Bool} {es : List Dt} (h : Rep Γ v (.exa sz nl es)) : ∃ a len, v = .slice a len len ∧ RepT Γ.M v (.slc sz nl es) := by
  cases h; exact ⟨_, _, rfl, by assumption⟩

/-- the operation is an append -/
theorem exec_append {a : Act} {o : Oper} {c : Call} (ho : o.op = .call c) (hc : c.callee = .builtin .append) {v : Value} {w' : World}
    (h : (Builtin.append_ c.argTypes o.type (c.args.map a.eval)).run P w = .ok v w') : (execOp a.eval o).run P w = .ok (.value v) w' := by
  simp [execOp, ho, resolve, hc, invoke, builtin, h]

theorem g_app {a : Act} {o : Oper} {c : Call} {x y : Operand} {ts : List D} {t u e : TypeId} {id sz : Nat} {es ys : List Dt} {bf : Buf} (ho : o.op = .call c) (hc : c.callee = .builtin .append)
    (hargs : c.args = #[x, y]) (h0 : c.argTypes[0]? = some t) (h1 : c.argTypes[1]? = some u) (ht : P.underlying t = some (.slice e)) (hp : 0 < P.cellsOf e) (hz : zeroOk P e = true)
    (hs : Sat Γ w s) (hx : Rep Γ (a.eval x) (.own id sz es)) (hsz : sz = P.cellsOf e) (hy : SrcOk P Γ w u e (a.eval y) ys)
    (hb : s.bufs[id]? = some bf) (hfill : bf.fill = es.length) (hbsz : bf.sz = sz) (hlim1 : (es.length + ys.length) * P.bytesOf e ≤ limit) (hlim2 : es.length + ys.length ≤ limit) :
    Good P Γ a o w { s with bufs := s.bufs.set id { bf with fill := es.length + ys.length } } (.own id sz (es ++ ys)) := by
  subst hsz
  obtain ⟨b, cap, fill, hr, hβ, hle, hv⟩ := hx.own_inv
  · skip
    obtain ⟨a1, a2, a3, arr, fz, t0, a4, a5, a6, a7⟩ := hs.bufs id bf b cap fill hb hβ
    have hff : es.length = fill := by rw [a1, hfill]
    have hv := hv hff
    obtain ⟨base, cap', olds, hve, hcap, holen, hor, hof, hold, _⟩ := olds_of hs hr (.inl rfl)
    rw [hv] at hve
    injection hve with e1 e2 e3
    subst e1; subst e3
    obtain ⟨news, hreads, hnr, hnf⟩ := hy
    have hnl := hreads.size
    have hargsv : c.args.map a.eval = #[.slice (some ⟨b, 0, none⟩) es.length cap, a.eval y] := by rw [hargs]; simp [hv]
    have hfit := hof.append hnf
    by_cases hn : ys = []
    · subst hn
      have hn0 : news = [] := List.eq_nil_of_length_eq_zero (by simpa using hnl)
      subst hn0
      have hst : ({ s with bufs := s.bufs.set id { bf with fill := es.length + ([] : List Dt).length } } : St) = s := by
        have hself : ({ bf with fill := es.length + ([] : List Dt).length } : Buf) = bf := by cases bf; simp_all
        rw [hself]
        have : s.bufs.set id bf = s.bufs := by
          apply List.ext_getElem?
          intro i
          rw [List.getElem?_set]
          split
          · rename_i e; subst e
            split
            · exact hb.symm
            · rename_i h; exact (h (List.getElem?_eq_some_iff.1 hb).1).elim
          · rfl
        rw [this]
      rw [hst, List.append_nil]
      have hrun := run_append_in (w := w) (ty := o.type) (base := some ⟨b, 0, none⟩) (sLen := es.length) (sCap := cap) h0 h1 ht hp hreads (by simpa using hcap)
      refine .pure (v := .slice (some ⟨b, 0, none⟩) es.length cap) (exec_append ho hc (by rw [hargsv, hrun]; simp [storeCells])) (.own (by rw [← hv]; exact hr) hβ hle (fun _ => rfl)) hs
    · have hpos : 0 < ys.length := List.length_pos_iff.2 hn
      by_cases hin : es.length + ys.length ≤ cap
      · -- in place
        have hrun := run_append_in (w := w) (ty := o.type) (base := some ⟨b, 0, none⟩) (sLen := es.length) (sCap := cap) h0 h1 ht hp hreads hin
        have hbound : 0 + es.length * P.cellsOf e + 0 + news.length ≤ arr.size := by
          rw [a5, hbsz, hnl]
          have : (es.length + ys.length) * P.cellsOf e ≤ cap * P.cellsOf e := Nat.mul_le_mul_right _ hin
          rw [Nat.add_mul] at this; omega
        have hst := run_storeCells_gen (P := P) b (0 + es.length * P.cellsOf e) t0 fz news 0 arr w a4 a6 (by omega) (vals_one hnr (flat_one hnf))
        have hadd : (⟨b, 0, none⟩ : Addr).add (es.length * P.cellsOf e) = ⟨b, 0 + es.length * P.cellsOf e, none⟩ := addr_add _ _ _
        generalize harr' : (arr.toList.take (0 + es.length * P.cellsOf e + 0) ++ news ++ arr.toList.drop (0 + es.length * P.cellsOf e + 0 + news.length)).toArray = arr' at hst
        have harrl : arr'.toList = arr.toList.take (es.length * P.cellsOf e) ++ news ++ arr.toList.drop (es.length * P.cellsOf e + news.length) := by rw [← harr']; simp
        have hasz : arr'.size = arr.size := by
          rw [← Array.length_toList, harrl]; simp; omega
        have hkeep : ∀ o', o' < fill * bf.sz → arr'[o']? = arr[o']? := by
          intro o' ho'
          rw [hbsz, ← hff] at ho'
          rw [← Array.getElem?_toList, harrl, List.append_assoc, List.getElem?_append_left (by simp; omega), List.getElem?_take, if_pos ho', Array.getElem?_toList]
        obtain ⟨hsat, hfwd⟩ := hs.growIn (fill' := es.length + ys.length) hb hβ (only_setRow w b arr') a4 (setRow_heap w b arr arr' t0 fz a4) hasz hkeep (by omega) hin rfl
        refine ⟨_, _, _, .inl (exec_append ho hc (by rw [hargsv, hrun]; simp only []; rw [hadd, hst]; rfl)), ?_, hsat, hfwd⟩
        refine .own (b := b) (cap := cap) (fill := es.length + ys.length) ?_ (by rw [List.getElem?_set_self (List.getElem?_eq_some_iff.1 hβ).1]) (by simp) (fun _ => by simp)
        have hseg : arr.toList.take (es.length * P.cellsOf e) = olds := by
          apply List.ext_getElem?
          intro j
          by_cases hj : j < es.length * P.cellsOf e
          · have hjo : j < olds.length := by omega
            have h3 := hold ⟨b, 0, none⟩ rfl j _ (List.getElem?_eq_getElem hjo)
            rw [addr_add] at h3
            simp only [World.cell?, a4] at h3
            rw [List.getElem?_take, if_pos hj, Array.getElem?_toList, List.getElem?_eq_getElem hjo]
            simpa using h3
          · rw [List.getElem?_eq_none (by simp; omega), List.getElem?_eq_none (by omega)]
        have hlen2 : (es ++ ys).length * P.cellsOf e = es.length * P.cellsOf e + ys.length * P.cellsOf e := by rw [List.length_append, Nat.add_mul]
        refine RepT.of_cells (vals := olds ++ news) (by simp) (by simpa using hin) hfit (fun i hi => ?_) ?_
        · show addM _ _ _ _ b (0 + i) = _
          rw [Nat.zero_add, hbsz, addM_at (by rw [← List.length_append]; exact hi), ← Array.getElem?_toList, harrl, hseg, List.getElem?_append_left (by simp; omega)]
        · rw [flat_append]
          exact (hor.append hnr).mono fun v d h => h.mono hfwd.M
      · -- a new row
        obtain ⟨i, z, hi, hzz, hzs, _, _⟩ := zeroOk_info hz
        obtain ⟨ncap, hncap, hrun⟩ := run_append_new (w := w) (ty := o.type) (base := some ⟨b, 0, none⟩) (sLen := es.length) (sCap := cap) (olds := olds) h0 h1 ht hp hreads hi hzz (by omega) holen
          (fun a ha j v hj => hold a ha j v hj) (fun h => by simp at h) hlim1 hlim2
        obtain ⟨hs1, hf1⟩ := hs.drew
        generalize harr : olds.toArray ++ news.toArray ++ Builtin.zeroCells z.cells (ncap - (es.length + ys.length)) = nar at hrun
        have hnar : nar.toList = olds ++ news ++ (Builtin.zeroCells z.cells (ncap - (es.length + ys.length))).toList := by rw [← harr]; simp
        have hnsz : nar.size = ncap * bf.sz := by
          rw [← Array.length_toList, hnar]
          simp only [List.length_append, Array.length_toList, size_zeroCells, hzs, holen, hnl, hbsz]
          rw [← Nat.add_mul, ← Nat.add_mul]; congr 1; omega
        obtain ⟨hsat, hfwd⟩ := hs1.growNew (t1 := e) (fill' := es.length + ys.length) (arr := nar) hb hβ hnsz (by omega) hncap rfl
        refine ⟨_, _, _, .inl (exec_append ho hc (by rw [hargsv, hrun])), ?_, hsat, hf1.trans hfwd⟩
        refine .own (b := w.heap.size) (cap := ncap) (fill := es.length + ys.length) ?_ (by
          show (Γ.β.set id _)[id]? = _
          rw [List.getElem?_set_self (List.getElem?_eq_some_iff.1 hβ).1]; rfl) (by simp) (fun _ => by simp)
        refine RepT.of_cells (vals := olds ++ news) (by simp) (by simpa using hncap) hfit (fun i hi => ?_) ?_
        · show addM _ _ _ _ w.heap.size (0 + i) = _
          have : w.heap.size = w.drew.heap.size := rfl
          rw [this, Nat.zero_add, hbsz, addM_at (by rw [← List.length_append]; exact hi), ← Array.getElem?_toList, hnar]
          have hlen2 : (es ++ ys).length * P.cellsOf e = es.length * P.cellsOf e + ys.length * P.cellsOf e := by rw [List.length_append, Nat.add_mul]
          rw [List.getElem?_append_left (by simp; omega)]
        · rw [flat_append]
          exact (hor.append hnr).mono fun v d h => h.mono (hf1.trans hfwd).M

end
end Go.DI

/-
  append to what has no room; bytes of a string; literals.
-/
namespace Go.DI
open Go

section
variable {P : Program} {w w' : World} {Γ Γ' : Cx} {s : St}

/-- a new row that grows, its elements told -/
theorem newRow_rep (hs : Sat Γ w s) {arr : Array Value} {t : TypeId} {fz : Nat × Nat} {sz cap : Nat} {es : List Dt} {vals : List Value} (hsz : 0 < sz) (ha : arr.size = cap * sz) (hf : es.length ≤ cap)
    (hz : ∀ o, o < arr.size → ¬(fz.1 ≤ o ∧ o < fz.2)) (hfit : Fit sz es) (hvals : ∀ i, i < es.length * sz → arr.toList[i]? = vals[i]?) (hr : RepL (RepT Γ.M) vals (flat es)) :
    ∃ Γ', Sat Γ' (w.alloc (.cells arr t fz)) { s with bufs := s.bufs ++ [⟨sz, t, es.length⟩] } ∧ Fwd Γ w Γ' (w.alloc (.cells arr t fz)) ∧
      Rep Γ' (.slice (some ⟨w.heap.size, 0, none⟩) es.length cap) (.own s.bufs.length sz es) := by
  obtain ⟨hsat, hfwd⟩ := hs.newBuf (t := t) hsz ha hf hz rfl
  refine ⟨_, hsat, hfwd, .own (b := w.heap.size) (cap := cap) (fill := es.length) ?_ (by rw [← hs.blen]; exact get_append_self _ _) (Nat.le_refl _) (fun _ => rfl)⟩
  refine RepT.of_cells (vals := vals) rfl hf hfit (fun i hi => ?_) (hr.mono fun v d h => h.mono hfwd.M)
  show addM _ _ _ _ w.heap.size (0 + i) = _
  rw [Nat.zero_add, addM_at hi, ← Array.getElem?_toList]
  exact hvals i hi

theorem g_appNew {a : Act} {o : Oper} {c : Call} {x y : Operand} {t u e : TypeId} {sz : Nat} {nl : Bool} {es ys : List Dt} {base : D} {s' : St} {d : D} (ho : o.op = .call c) (hc : c.callee = .builtin .append)
    (hargs : c.args = #[x, y]) (h0 : c.argTypes[0]? = some t) (h1 : c.argTypes[1]? = some u) (ht : P.underlying t = some (.slice e)) (hp : 0 < P.cellsOf e) (hz : zeroOk P e = true)
    (hs : Sat Γ w s) (hx : Rep Γ (a.eval x) base) (hlen : ∃ aa, a.eval x = .slice aa es.length es.length) (hxr : RepT Γ.M (a.eval x) (.slc sz nl es)) (hsz : sz = P.cellsOf e ∨ nl = true)
    (hy : SrcOk P Γ w u e (a.eval y) ys)
    (he : (if ys.isEmpty then OpR.val base s
      else if (es.length + ys.length) * P.bytesOf e ≤ limit ∧ es.length + ys.length ≤ limit then
        .val (.own s.bufs.length (P.cellsOf e) (es ++ ys)) { s with bufs := s.bufs ++ [⟨P.cellsOf e, e, es.length + ys.length⟩] }
      else .fail) = .val d s') :
    Good P Γ a o w s' d := by
  obtain ⟨aa, hv⟩ := hlen
  obtain ⟨news, hreads, hnr, hnf⟩ := hy
  have hnl := hreads.size
  have hargsv : c.args.map a.eval = #[.slice aa es.length es.length, a.eval y] := by rw [hargs]; simp [hv]
  by_cases hn : ys = []
  · subst hn
    simp only [List.isEmpty_nil, if_true, OpR.val.injEq] at he
    obtain ⟨rfl, rfl⟩ := he
    have hn0 : news = [] := List.eq_nil_of_length_eq_zero (by simpa using hnl)
    subst hn0
    have hrun := run_append_in (w := w) (ty := o.type) (base := aa) (sLen := es.length) (sCap := es.length) h0 h1 ht hp hreads (by simp)
    refine .pure (v := .slice aa es.length es.length) (exec_append ho hc (by rw [hargsv, hrun]; cases aa <;> simp [storeCells])) (by rw [← hv]; exact hx) hs
  · have hpos : 0 < ys.length := List.length_pos_iff.2 hn
    have hne : ys.isEmpty = false := by cases ys; exact (hn rfl).elim; rfl
    rw [hne] at he
    simp only [Bool.false_eq_true, if_false] at he
    split at he <;> simp at he
    rename_i hlim
    obtain ⟨rfl, rfl⟩ := he
    obtain ⟨base', cap', olds, hve, hcap, holen, hor, hof, hold, hnone⟩ := olds_of hs hxr hsz
    rw [hv] at hve
    injection hve with e1 e2 e3
    subst e1; subst e3
    obtain ⟨i, z, hi, hzz, hzs, _, _⟩ := zeroOk_info hz
    obtain ⟨ncap, hncap, hrun⟩ := run_append_new (w := w) (ty := o.type) (base := aa) (sLen := es.length) (sCap := es.length) (olds := olds) h0 h1 ht hp hreads hi hzz (by omega) holen
      (fun a ha j v hj => hold a ha j v hj) (fun h => (hnone h).1) hlim.1 hlim.2
    obtain ⟨hs1, hf1⟩ := hs.drew
    generalize harr : olds.toArray ++ news.toArray ++ Builtin.zeroCells z.cells (ncap - (es.length + ys.length)) = nar at hrun
    have hnar : nar.toList = olds ++ news ++ (Builtin.zeroCells z.cells (ncap - (es.length + ys.length))).toList := by rw [← harr]; simp
    have hnsz : nar.size = ncap * P.cellsOf e := by
      rw [← Array.length_toList, hnar]
      simp only [List.length_append, Array.length_toList, size_zeroCells, hzs, holen, hnl]
      rw [← Nat.add_mul, ← Nat.add_mul]; congr 1; omega
    have hl2 : (es ++ ys).length = es.length + ys.length := by simp
    obtain ⟨Γ', hsat, hfwd, hrep⟩ := newRow_rep (t := e) (fz := (0, 0)) (es := es ++ ys) (vals := olds ++ news) hs1 hp hnsz (by omega) (fun _ _ h => by omega) (hof.append hnf) (fun i hi => by
        rw [hnar, List.getElem?_append_left (by simp only [List.length_append]; rw [hl2, Nat.add_mul] at hi; omega)]) (by
        rw [flat_append]; exact (hor.append hnr).mono fun v d h => h.mono hf1.M)
    rw [hl2] at hsat hrep
    exact ⟨_, _, Γ', .inl (exec_append ho hc (by rw [hargsv, hrun]; rfl)), hrep, hsat, hf1.trans hfwd⟩

theorem modify_push {α : Type} (h : Array α) (x : α) (f : α → α) : (h.push x).modify h.size f = h.push (f x) := by
  apply Array.ext_getElem?
  intro i
  rw [Array.getElem?_modify, Array.getElem?_push, Array.getElem?_push]
  by_cases e : h.size = i
  · subst e; simp
  · have e' : i ≠ h.size := fun h' => e h'.symm
    simp [e, e']

theorem flat_bytes (m : List UInt8) : flat (m.map byteD) = m.map byteD := by
  unfold flat
  rw [List.flatMap_map]
  induction m with
  | nil => rfl
  | cons a m ih => rw [List.flatMap_cons, ih]; rfl

theorem fit_bytes (m : List UInt8) : Fit 1 (m.map byteD) := by
  intro c hc
  obtain ⟨b, _, rfl⟩ := List.mem_map.1 hc
  simp [byteD, Dt.cells, Dt.one]

theorem rep_bytes {M : Mem} (l : List UInt8) : RepL (RepT M) (l.map (fun b => Value.int .u8 (b.toNat : Int))) (l.map byteD) := by
  refine ⟨by simp, fun i v d hv hd => ?_⟩
  rw [List.getElem?_map] at hv hd
  cases hb : l[i]? with
  | none => simp [hb] at hv
  | some b => simp [hb] at hv hd; subst hv; subst hd; exact .int

/-- []byte(s) -/
theorem g_mkBuf {a : Act} {o : Oper} {src dst e : TypeId} {x : Operand} {l : List UInt8} {d : TypeDesc} (ho : o.op = .convert src dst x) (hu1 : P.underlying src = some d) (hu : P.underlying dst = some (.slice e))
    (he : P.underlying e = some (.int .u8)) (hs : Sat Γ w s) (hx : Rep Γ (a.eval x) (.pv (.str l))) :
    Good P Γ a o w { s with bufs := s.bufs ++ [⟨1, e, (l.map byteD).length⟩] } (.own s.bufs.length 1 (l.map byteD)) := by
  obtain ⟨str, hstr, hl'⟩ := hx.pv_inv.str_inv
  have hsz : str.size = l.length := by rw [← hl']; exact (Array.length_toList (xs := str.data)).symm
  obtain ⟨hs1, hf1⟩ := hs.drew
  obtain ⟨cap, hcap, hcapge⟩ : ∃ cap, cap = (Question.appendCap str.size 0 e).cut (w.tape w.drawn (.appendCap str.size 0 e)) ∧ str.size ≤ cap := ⟨_, rfl, by simp [Question.cut]⟩
  generalize harr : str.data.map (fun b => Value.int .u8 (b.toNat : Int)) ++ Array.replicate (cap - str.size) (.int .u8 0) = arr
  have hasz : arr.size = cap * 1 := by
    rw [← harr]; simp
    have : str.data.size = str.size := rfl
    omega
  have hal : arr.toList = l.map (fun b => Value.int .u8 (b.toNat : Int)) ++ List.replicate (cap - str.size) (.int .u8 0) := by rw [← harr, ← hl']; simp
  obtain ⟨Γ', hsat, hfwd, hrep⟩ := newRow_rep (t := e) (fz := (arr.size, arr.size + 1)) (es := l.map byteD) (vals := l.map (fun b => Value.int .u8 (b.toNat : Int))) hs1 (Nat.lt_of_lt_of_le Nat.zero_lt_one (Nat.le_refl _)) hasz
    (by simp; omega) (fun o' ho' h => by simp only at h; omega) (fit_bytes l) (fun i hi => by rw [hal, List.getElem?_append_left (by simp at hi ⊢; omega)]) (by rw [flat_bytes]; exact rep_bytes l)
  refine ⟨_, _, Γ', .inl ?_, hrep, hsat, hf1.trans hfwd⟩
  have hfz : (w.drew.alloc (.cells arr e)).freeze ⟨w.drew.heap.size, arr.size, none⟩ 1 = w.drew.alloc (.cells arr e (arr.size, arr.size + 1)) := by
    unfold World.freeze World.alloc
    simp only [Nat.one_ne_zero, if_false]
    congr 1
    rw [modify_push]
    rfl
  have hshape : (w.drew.alloc (.cells arr e)).shape? w.drew.heap.size = some (e, arr.size) := by
    unfold World.shape?
    rw [heap_alloc_self]
  have hb : (Conv.stringToBytes e str).run P w = .ok (.slice (some ⟨w.drew.heap.size, 0, none⟩) str.size cap) (w.drew.alloc (.cells arr e (arr.size, arr.size + 1))) := by
    have hsh : World.shape? (w.drew.alloc (.cells arr e)) w.heap.size = some (e, arr.size) := hshape
    have hfz' : World.freeze (w.drew.alloc (.cells arr e)) ⟨w.heap.size, arr.size, none⟩ 1 = w.drew.alloc (.cells arr e (arr.size, arr.size + 1)) := hfz
    simp only [Conv.stringToBytes, Sem.run_bind, run_choose, Question.forced, Bool.false_eq_true, if_false, Result.andThen_ok, ← hcap, harr, newRow, run_newObj, World.drew_eq, World.alloc_eq, Sem.run_pure, markStringish, run_shape, World.size_drew]
    rw [hsh]
    simp only [run_freeze, hfz']
    rfl
  have hc : (convert src dst (.string str)).run P w = .ok (.slice (some ⟨w.drew.heap.size, 0, none⟩) str.size cap) (w.drew.alloc (.cells arr e (arr.size, arr.size + 1))) := by
    cases d <;> simp [convert, run_und hu1, run_und hu, run_und he, hb]
  simp only [execOp, ho, hstr, Sem.run_bind, hc, Result.andThen_ok, Sem.run_pure]
  simp [hsz]

/-! ### slice literals -/

theorem g_buildSlice {a : Act} {o : Oper} {t : TypeId} {len : Nat} {parts : Array (Nat × Operand)} {ts : List D} {d : D} (ho : o.op = .buildSlice t len parts) (hs : Sat Γ w s) (ha : RepA Γ a ts)
    (h : buildSliceD P t len (parts.toList.map fun p => (p.1, ev ts p.2)) = some d) : Good P Γ a o w s d := by
  unfold buildSliceD at h
  split at h <;> try (simp at h; done)
  rename_i e hu
  split at h <;> try (simp at h; done)
  rename_i ps hps
  split at h <;> simp at h
  subst h
  rename_i hc
  simp only [Bool.and_eq_true, beq_iff_eq, decide_eq_true_eq, List.all_eq_true] at hc
  obtain ⟨⟨⟨⟨hplaces, hfits⟩, hsmall⟩, hpos⟩, hz⟩ := hc
  obtain ⟨i, z, hi, hzz, hzs, hisz, _⟩ := zeroOk_info hz
  have hlp : ps.length = parts.size := by have := omap_length hps; simpa using this
  have hlen : len = ps.length := by have := congrArg List.length hplaces; simpa using this.symm
  -- each part
  have hpart : ∀ (j : Nat) (p : Nat × Operand), parts[j]? = some p → p.1 = j ∧ ∃ x, ps[j]? = some (j, x) ∧ RepT Γ.M (a.eval p.2) x ∧ fits (P.cellsOf e) x = true := by
    intro j p hp
    have hj : j < parts.size := (Array.getElem?_eq_some_iff.1 hp).1
    have hjp : j < ps.length := by omega
    have h1 : (parts.toList.map fun p => (p.1, ev ts p.2))[j]? = some (p.1, ev ts p.2) := by
      rw [List.getElem?_map]; simp [hp]
    have h2 := List.getElem?_eq_getElem hjp
    have h3 := omap_get hps j _ _ h1 h2
    cases hdt : (ev ts p.2).aggDt with
    | none => simp [hdt] at h3
    | some x =>
      simp [hdt] at h3
      have h4 : (ps.map (·.1))[j]? = some p.1 := by rw [List.getElem?_map, h2, ← h3]; rfl
      rw [hplaces, List.getElem?_range (by omega)] at h4
      have h5 : j = p.1 := by simpa using h4
      refine ⟨h5.symm, x, ?_, aggDt_rep (ev_rep ha p.2) hdt, ?_⟩
      · rw [h2, ← h3, ← h5]
      · have := hfits ps[j] (List.getElem_mem hjp)
        rw [← h3] at this; exact this
  generalize hvs : parts.toList.map (fun p => a.eval p.2) = vs
  have hvl : vs.length = len := by rw [← hvs, hlen, hlp]; simp
  have hparts : (parts.map fun p => (p.1, a.eval p.2)).toList = (vs.zipIdx 0).map fun x => (x.2, x.1) := by
    apply List.ext_getElem?
    intro j
    rw [← hvs, Array.toList_map, List.getElem?_map, List.getElem?_map, List.getElem?_zipIdx, List.getElem?_map]
    cases hp : parts.toList[j]? with
    | none => simp
    | some p =>
      have := (hpart j p (by simpa using hp)).1
      simp [this]
  have hv1 : ∀ (j : Nat) (v : Value), vs[j]? = some v → ∃ x, ps[j]? = some (j, x) ∧ RepT Γ.M v x ∧ fits (P.cellsOf e) x = true := by
    intro j v hv
    rw [← hvs, List.getElem?_map] at hv
    cases hp : parts.toList[j]? with
    | none => simp [hp] at hv
    | some p =>
      simp [hp] at hv; subst hv
      exact (hpart j p (by simpa using hp)).2
  have hvc : ∀ v ∈ vs, v.cells.size = P.cellsOf e := by
    intro v hv
    obtain ⟨j, hj⟩ := List.mem_iff_getElem?.1 hv
    obtain ⟨x, _, hr, hf⟩ := hv1 j v hj
    have h1 := fits_iff.1 hf
    have h2 := cells_repT hr (by rw [List.all_eq_true]; exact h1.2)
    rw [← Array.length_toList, h2.1, h1.1]
  have hcells : RepL (RepT Γ.M) (vs.flatMap fun v => v.cells.toList) (flat (ps.map (·.2))) ∧ Fit (P.cellsOf e) (ps.map (·.2)) := by
    have gen : ∀ (us : List Value) (qs : List (Nat × Dt)), us.length = qs.length → (∀ (j : Nat) (v : Value), us[j]? = some v → ∃ n x, qs[j]? = some (n, x) ∧ RepT Γ.M v x ∧ fits (P.cellsOf e) x = true) →
        RepL (RepT Γ.M) (us.flatMap fun v => v.cells.toList) (flat (qs.map (·.2))) ∧ Fit (P.cellsOf e) (qs.map (·.2)) := by
      intro us
      induction us with
      | nil => intro qs hl _; cases qs with | nil => exact ⟨.nil, fun x hx => by simp at hx⟩ | cons _ _ => simp at hl
      | cons u us ih =>
        intro qs hl hq
        cases qs with
        | nil => simp at hl
        | cons q qs =>
          obtain ⟨i1, i2⟩ := ih qs (by simpa using hl) (fun j v hv => by simpa using hq (j + 1) v (by simpa using hv))
          obtain ⟨n, x, hx, hr, hf⟩ := hq 0 u rfl
          simp at hx; subst hx
          have h1 := fits_iff.1 hf
          refine ⟨?_, fun y hy => ?_⟩
          · simp only [List.flatMap_cons, List.map_cons, flat] at i1 ⊢
            exact (cells_repT hr (by rw [List.all_eq_true]; exact h1.2)).append i1
          · rcases List.mem_cons.1 hy with rfl | hy
            · exact h1
            · exact i2 y hy
    exact gen vs ps (by omega) (fun j v hv => by obtain ⟨x, h⟩ := hv1 j v hv; exact ⟨j, x, h⟩)
  obtain ⟨hrep, hfit⟩ := hcells
  have hrun : (Instr.buildSlice t len (parts.map fun p => (p.1, a.eval p.2))).run P w = .ok (.slice (some ⟨w.heap.size, 0, none⟩) len len) (w.alloc (.cells (vs.flatMap fun v => v.cells.toList).toArray e)) := by
    by_cases h0 : len = 0
    · have hv0 : vs = [] := List.eq_nil_of_length_eq_zero (by omega)
      have hp0 : parts = #[] := by
        apply Array.eq_empty_of_size_eq_zero; omega
      subst h0
      subst hv0
      subst hp0
      simp [Instr.buildSlice, run_und hu, run_size' hpos, Instr.fill, newRow]
      congr 2
      exact Array.eq_empty_of_size_eq_zero (by simp)
    · have hfw := Great.fill_whole (s := i.size) (by omega) vs ((Array.range (len * i.size)).map (z.cells[· % z.cells.size]!)) (by rw [hisz]; exact hvc) (by simp [hvl])
      rw [← hparts] at hfw
      have hsm : ¬ len * i.size > 2 ^ 24 := by rw [hisz]; omega
      have hps : ¬ len * i.size = 0 := by rw [hisz]; exact Nat.ne_of_gt (Nat.mul_pos (by omega) hpos)
      generalize (parts.map fun p => (p.1, a.eval p.2)) = pv at hfw ⊢
      generalize (vs.flatMap fun v => v.cells.toList).toArray = cells at hfw ⊢
      have hsm' : ¬ 16777216 < len * i.size := hsm
      simp [Instr.buildSlice, run_und hu, sizeOf, typeInfo, zeroValue, hi, hzz, hsm', hps, hfw, newRow]
  obtain ⟨hsat, hfwd⟩ := hs.const (arr := (vs.flatMap fun v => v.cells.toList).toArray) (t := e) (fz := (0, 0)) (lim := len * P.cellsOf e)
  refine ⟨.slice (some ⟨w.heap.size, 0, none⟩) len len, _, _, .inl ?_, ?_, hsat, hfwd⟩
  · simp only [execOp, ho, Sem.run_bind]
    rw [hrun]; rfl
  · refine .exa (RepT.of_cells (vals := vs.flatMap fun v => v.cells.toList) (by simp; omega) (Nat.le_refl _) hfit (fun j hj => ?_) (hrep.mono fun v d h => h.mono hfwd.M))
    show addM _ _ _ _ w.heap.size (0 + j) = _
    rw [Nat.zero_add, addM_at (by simpa [hlen] using hj)]; simp

end
end Go.DI

/-
  Struct and array literals.
-/
namespace Go.DI
open Go

section
variable {P : Program} {w w' : World} {Γ Γ' : Cx} {s : St}

theorem fold_set_rep : ∀ (l : List Value) (ds : List D) (k off : Nat) (cells : Array Value) (cs : List D), RepL (Rep Γ) l ds → RepL (Rep Γ) cells.toList cs →
    RepL (Rep Γ) ((l.zipIdx k).foldl (fun cs (x : Value × Nat) => cs.setIfInBounds (off + x.2) x.1) cells).toList (fillL cs (off + k) ds)
  | [], ds, k, off, cells, cs, h1, h2 => by
    have : ds = [] := List.eq_nil_of_length_eq_zero (by simpa using h1.1.symm)
    subst this
    simpa [fillL] using h2
  | v :: l, ds, k, off, cells, cs, h1, h2 => by
    cases ds with
    | nil => have := h1.1; simp at this
    | cons d ds =>
      simp only [List.zipIdx_cons, List.foldl_cons, fillL]
      have ih := fold_set_rep l ds (k + 1) off (cells.setIfInBounds (off + k) v) (cs.set (off + k) d) h1.tail (by rw [Array.toList_setIfInBounds]; exact h2.set h1.head _)
      rwa [← Nat.add_assoc] at ih

theorem fill_rep (place : Nat → Option (Nat × Nat)) : ∀ (parts : List (Nat × Value)) (dparts : List (Nat × D)) (cells : Array Value) (cs cs' : List D), RepL (Rep Γ) cells.toList cs →
    parts.length = dparts.length → (∀ (j : Nat) (p : Nat × Value) (q : Nat × D), parts[j]? = some p → dparts[j]? = some q → p.1 = q.1 ∧ Rep Γ p.2 q.2) →
    layParts place cs dparts = some cs' → ∃ cells', Instr.fill place cells parts = some cells' ∧ RepL (Rep Γ) cells'.toList cs'
  | [], dparts, cells, cs, cs', h1, hl, _, h => by
    have : dparts = [] := List.eq_nil_of_length_eq_zero (by simpa using hl.symm)
    subst this
    simp [layParts] at h; subst h
    exact ⟨cells, rfl, h1⟩
  | p :: parts, dparts, cells, cs, cs', h1, hl, hp, h => by
    cases dparts with
    | nil => simp at hl
    | cons q dparts =>
      obtain ⟨e1, r1⟩ := hp 0 p q rfl rfl
      obtain ⟨i, v⟩ := p
      obtain ⟨i', d⟩ := q
      simp only at e1 r1
      subst e1
      simp only [layParts] at h
      cases hpl : place i with
      | none => simp [hpl] at h
      | some os =>
        obtain ⟨off, size⟩ := os
        simp only [hpl] at h
        split at h <;> try (simp at h; done)
        rename_i hc
        obtain ⟨c1, c2, c3⟩ := hc
        have hcr := cells_rep r1 c3
        have hsz : v.cells.size = size := by have := hcr.1; simp at this; omega
        have hcsz : cells.size = cs.length := by have := h1.1; simpa using this
        have hfold : RepL (Rep Γ) (v.cells.zipIdx.foldl (fun cs (x : Value × Nat) => cs.setIfInBounds (off + x.2) x.1) cells).toList (fillL cs off d.cells) := by
          have := fold_set_rep (Γ := Γ) v.cells.toList d.cells 0 off cells cs hcr h1
          rw [← Array.foldl_toList, Array.toList_zipIdx]
          exact this
        obtain ⟨cells', f1, f2⟩ := fill_rep place parts dparts _ _ cs' hfold (by simpa using hl) (fun j p q hj hq => hp (j + 1) p q (by simpa using hj) (by simpa using hq)) h
        refine ⟨cells', ?_, f2⟩
        simp only [Instr.fill, hpl]
        rw [if_neg (by simp; omega)]
        exact f1

theorem places_ok : ∀ (fs : List Field), (∀ f ∈ fs, okT P f.type = true) → fs.mapM (fun f => (P.info? f.type).map fun i => (f.offset, i.size)) = some (fs.map fun f => (f.offset, P.cellsOf f.type))
  | [], _ => rfl
  | f :: fs, h => by
    obtain ⟨i, hi⟩ := info_of_okT (h f (by simp))
    rw [List.mapM_cons, places_ok fs (fun g hg => h g (by simp [hg]))]
    simp [hi, Program.cellsOf]

theorem g_build {a : Act} {o : Oper} {t : TypeId} {parts : Array (Nat × Operand)} {ts : List D} {d : D} (ho : o.op = .build t parts) (hs : Sat Γ w s) (ha : RepA Γ a ts)
    (h : buildD P t (parts.toList.map fun p => (p.1, ev ts p.2)) = some d) : Good P Γ a o w s d := by
  unfold buildD at h
  split at h <;> try (simp at h; done)
  rename_i z hz
  split at h
  · simp at h
  rename_i hz1
  have hz1 : z.cells.all D.one = true := by simpa using hz1
  obtain ⟨v, i, hi, hv, hr⟩ := zeroD_rep (Γ := Γ) hz
  have hzc := cells_rep hr hz1
  have hparts : ∀ (j : Nat) (p : Nat × Value) (q : Nat × D), (parts.map fun p => (p.1, a.eval p.2)).toList[j]? = some p → (parts.toList.map fun p => (p.1, ev ts p.2))[j]? = some q → p.1 = q.1 ∧ Rep Γ p.2 q.2 := by
    intro j p q hp hq
    rw [Array.toList_map, List.getElem?_map] at hp
    rw [List.getElem?_map] at hq
    cases hx : parts.toList[j]? with
    | none => simp [hx] at hp
    | some x =>
      simp [hx] at hp hq; subst hp; subst hq
      exact ⟨rfl, ev_rep ha _⟩
  split at h
  · rename_i fs hu
    split at h
    · simp at h
    rename_i hok
    have hok : ∀ f ∈ fs.toList, okT P f.type = true := by
      intro f hf
      cases hb : fs.toList.all (fun f => okT P f.type) with
      | true => exact List.all_eq_true.mp hb f hf
      | false => simp only [hb] at hok; exact absurd rfl hok
    cases hl : layParts (fun i => (fs[i]?).map fun f => (f.offset, P.cellsOf f.type)) z.cells (parts.toList.map fun p => (p.1, ev ts p.2)) with
    | none => simp [hl] at h
    | some cs' =>
      simp [hl] at h; subst h
      obtain ⟨cells', f1, f2⟩ := fill_rep (Γ := Γ) _ _ _ v.cells z.cells cs' hzc (by simp) hparts hl
      refine .pure (v := .agg cells') ?_ (mkAgg_rep f2) hs
      have hpl := run_places (P := P) w fs.toList _ (places_ok fs.toList hok)
      have hfe : (fun i : Nat => (fs.map fun f => (f.offset, P.cellsOf f.type))[i]?) = (fun i => (fs[i]?).map fun f => (f.offset, P.cellsOf f.type)) := by
        funext i; simp
      have f1' : Instr.fill (fun i : Nat => ((fs.toList.map fun f => (f.offset, P.cellsOf f.type)).toArray)[i]?) v.cells (parts.map fun p => (p.1, a.eval p.2)).toList = some cells' := by
        rw [← f1]; congr 1; funext i; simp
      have hrun : (Instr.build t (parts.map fun p => (p.1, a.eval p.2))).run P w = .ok (.agg cells') w := by
        generalize (parts.map fun p => (p.1, a.eval p.2)) = pv at f1' ⊢
        simp [Instr.build, run_und hu, run_zero hi hv, Array.mapM_eq_mapM_toList, hpl]
        simp at f1'
        rw [f1']
        rfl
      simp only [execOp, ho, Sem.run_bind]
      rw [hrun]; rfl
  · rename_i n e hu
    split at h
    · simp at h
    rename_i hok
    have hok : okT P e = true := by simpa using hok
    cases hl : layParts (fun i => some (i * P.cellsOf e, P.cellsOf e)) z.cells (parts.toList.map fun p => (p.1, ev ts p.2)) with
    | none => simp [hl] at h
    | some cs' =>
      simp [hl] at h; subst h
      obtain ⟨cells', f1, f2⟩ := fill_rep (Γ := Γ) _ _ _ v.cells z.cells cs' hzc (by simp) hparts hl
      refine .pure (v := .agg cells') ?_ (mkAgg_rep f2) hs
      have hrun : (Instr.build t (parts.map fun p => (p.1, a.eval p.2))).run P w = .ok (.agg cells') w := by
        generalize (parts.map fun p => (p.1, a.eval p.2)) = pv at f1 ⊢
        simp [Instr.build, run_und hu, run_zero hi hv, run_size hok, f1]
      simp only [execOp, ho, Sem.run_bind]
      rw [hrun]; rfl
  · simp at h

end
end Go.DI

/-
  Map keys of plain kinds; finding an entry.
-/
namespace Go.DI
open Go

section
variable {P : Program} {w w' : World} {Γ Γ' : Cx} {M : Mem} {s : St}

theorem plain_fields (d : Nat) (xs : Array Value) {cs : List Dt} (hx : RepL (RepT M) xs.toList cs) :
    ∀ (fs : List Field) (off : Nat), off ≤ cs.length → (∀ f ∈ fs, plainTy P d f.type = true) → fitK (fs.flatMap fun f => kindsOf P d f.type) (cs.drop off) = true →
      fs.foldl (fun n f => if n == f.offset then n + P.cellsOf f.type else cs.length + 1) off = cs.length →
      ∀ f ∈ fs, ∃ v as, (part f.type xs f.offset).run P w = .ok v w ∧ ValOf P M f.type v as ∧ fitK (kindsOf P d f.type) as = true
  | [], _, _, _, _, _ => fun f hf => by simp at hf
  | f :: fs, off, hoff, hf, kx, hc => by
    have hpl := hf f (by simp)
    obtain ⟨hok, h1⟩ := plain_agg d f.type hpl
    have hkl := kinds_len hpl
    have big : ∀ (l : List Field) (n : Nat), cs.length < n → cs.length < l.foldl (fun n f => if n == f.offset then n + P.cellsOf f.type else cs.length + 1) n := by
      intro l
      induction l with
      | nil => intro n hn; exact hn
      | cons g l ih =>
        intro n hn
        simp only [List.foldl_cons]
        apply ih
        split <;> omega
    simp only [List.foldl_cons] at hc
    have ho : off = f.offset := by
      by_cases e : off = f.offset
      · exact e
      · have : (off == f.offset) = false := by simpa using e
        rw [this] at hc
        simp only [Bool.false_eq_true, if_false] at hc
        have := big fs (cs.length + 1) (by omega)
        omega
    rw [ho] at hc hoff kx
    simp only [List.flatMap_cons] at kx
    obtain ⟨kx1, kx2⟩ := fitK_append kx
    rw [hkl] at kx1 kx2
    rw [List.drop_drop] at kx2
    simp only [beq_self_eq_true, if_true] at hc
    have hle : f.offset + P.cellsOf f.type ≤ cs.length := by
      by_cases e : f.offset + P.cellsOf f.type ≤ cs.length
      · exact e
      · have := big fs (f.offset + P.cellsOf f.type) (by omega)
        omega
    obtain ⟨a, ha, va⟩ := run_part (w := w) (off := f.offset) hok hx hle h1
    have ih := plain_fields d xs hx fs (f.offset + P.cellsOf f.type) hle (fun g hg => hf g (by simp [hg])) kx2 hc
    intro g hg
    rcases List.mem_cons.1 hg with rfl | hg
    · exact ⟨a, _, ha, va, kx1⟩
    · exact ih g hg

theorem plain_items (d : Nat) (xs : Array Value) {cs : List Dt} (hx : RepL (RepT M) xs.toList cs) {e : TypeId} (hpl : plainTy P d e = true) :
    ∀ (m k : Nat), (k + m) * P.cellsOf e = cs.length → fitK (List.replicate m (kindsOf P d e)).flatten (cs.drop (k * P.cellsOf e)) = true →
      ∀ j, k ≤ j → j < k + m → ∃ v as, (part e xs (j * P.cellsOf e)).run P w = .ok v w ∧ ValOf P M e v as ∧ fitK (kindsOf P d e) as = true
  | 0, _, _, _ => fun j h1 h2 => by omega
  | m + 1, k, hc, kx => by
    obtain ⟨hok, h1⟩ := plain_agg d e hpl
    have hkl := kinds_len hpl
    have hc' : (k + 1 + m) * P.cellsOf e = cs.length := by rw [← hc]; congr 1; omega
    have hk1 : (k + 1) * P.cellsOf e ≤ cs.length := by rw [← hc']; exact Nat.mul_le_mul_right _ (by omega)
    have es : k * P.cellsOf e + P.cellsOf e = (k + 1) * P.cellsOf e := by rw [Nat.add_mul, Nat.one_mul]
    simp only [List.replicate_succ, List.flatten_cons] at kx
    obtain ⟨kx1, kx2⟩ := fitK_append kx
    rw [hkl] at kx1 kx2
    rw [List.drop_drop, es] at kx2
    obtain ⟨a, ha, va⟩ := run_part (w := w) (off := k * P.cellsOf e) hok hx (by omega) h1
    have ih := plain_items d xs hx hpl m (k + 1) hc' kx2
    intro j hj1 hj2
    by_cases hj : j = k
    · subst hj; exact ⟨a, _, ha, va, kx1⟩
    · exact ih j (by omega) (by omega)

theorem plain_checkKey (em : Bool) : ∀ (d : Nat) (t : TypeId), plainTy P d t = true → ∀ D, d ≤ D → ∀ (x : Value) (cs : List Dt), ValOf P M t x cs → fitK (kindsOf P d t) cs = true →
    (Instr.checkKey em D t x).run P w = .ok () w
  | 0, t, h, _, _, _, _, _, _ => by simp [plainTy] at h
  | d + 1, t, h, 0, hD, _, _, _, _ => by omega
  | d + 1, t, h, D + 1, hD, x, cs, hx, kx => by
    unfold plainTy at h
    split at h
    · rename_i hu; simp [Instr.checkKey, run_und hu]
    · rename_i k hu; simp [Instr.checkKey, run_und hu]
    · rename_i hu; simp [Instr.checkKey, run_und hu]
    · rename_i fs hu
      have ha : isAggT P t = true := by simp [isAggT, hu]
      rcases hx with ⟨_, xs, rfl, hxs, lx⟩ | ⟨h1, _⟩
      · simp only [Bool.and_eq_true, Bool.not_eq_true', List.all_eq_true, bne_iff_ne, ne_eq, beq_iff_eq] at h
        obtain ⟨⟨⟨_, h2⟩, h3⟩, _⟩ := h
        simp only [kindsOf, hu] at kx
        have each := plain_fields (w := w) d xs hxs fs.toList 0 (by omega) (fun f hf => (h2 f hf).2) (by simpa using kx) (by rw [lx]; simpa using h3)
        have deep : ∀ f ∈ fs.toList, f.name ≠ "_" := fun f hf => (h2 f hf).1
        have ck : ∀ f ∈ fs.toList, ∃ v, (part f.type xs f.offset).run P w = .ok v w ∧ (Instr.checkKey em D f.type v).run P w = .ok () w := fun f hf => by
          obtain ⟨v, as, e1, e2, e3⟩ := each f hf
          exact ⟨v, e1, plain_checkKey em d f.type (h2 f hf).2 D (by omega) v as e2 e3⟩
        rw [Instr.checkKey]
        simp only [Sem.run_bind, run_und hu, Result.andThen_ok]
        rw [← Array.forIn_toList]
        generalize fs.toList = L at deep ck
        induction L with
        | nil => simp
        | cons f L ih =>
          obtain ⟨v, p1, p2⟩ := ck f (by simp)
          have hn := deep f (by simp)
          simp only [List.forIn_cons, Sem.run_bind, hn, ne_eq, not_false_eq_true, if_true, Result.andThen_ok, p1, p2, Sem.run_pure]
          exact ih (fun y hy => deep y (by simp [hy])) (fun y hy => ck y (by simp [hy]))
      · rw [ha] at h1; cases h1
    · rename_i n e hu
      have ha : isAggT P t = true := by simp [isAggT, hu]
      rcases hx with ⟨_, xs, rfl, hxs, lx⟩ | ⟨h1, _⟩
      · simp only [Bool.and_eq_true, beq_iff_eq] at h
        obtain ⟨⟨h1, h2⟩, _⟩ := h
        simp only [kindsOf, hu] at kx
        obtain ⟨hok, _⟩ := plain_agg d e h1
        have each := plain_items (w := w) d xs hxs h1 n 0 (by rw [lx, ← h2]; simp) (by simpa using kx)
        have ck : ∀ j ∈ List.range' 0 n, ∃ v, (part e xs (j * P.cellsOf e)).run P w = .ok v w ∧ (Instr.checkKey em D e v).run P w = .ok () w := fun j hj => by
          have := List.mem_range'_1.1 hj
          obtain ⟨v, as, e1, e2, e3⟩ := each j (by omega) (by omega)
          exact ⟨v, e1, plain_checkKey em d e h1 D (by omega) v as e2 e3⟩
        rw [Instr.checkKey]
        simp only [Sem.run_bind, run_und hu, Result.andThen_ok]
        simp only [Std.Legacy.Range.forIn_eq_forIn_range', Std.Legacy.Range.size, Nat.sub_zero, Nat.add_one_sub_one, Nat.div_one]
        generalize List.range' 0 n = is at ck
        induction is with
        | nil => simp
        | cons j is ih =>
          obtain ⟨v, p1, p2⟩ := ck j (by simp)
          simp only [List.forIn_cons, Sem.run_bind, run_size hok, Result.andThen_ok, p1, p2, Sem.run_pure]
          exact ih (fun y hy => ck y (by simp [hy]))
      · rw [ha] at h1; cases h1
    · simp at h

theorem keyEq_ok {kt : TypeId} {a b : Dt} {r : Bool} (h : keyEq P kt a b = some r) : keyOk P kt a = true ∧ keyOk P kt b = true := by
  unfold keyEq at h
  split at h
  · split at h <;> try (simp at h; done)
    rename_i hc
    simp only [Bool.and_eq_true] at hc
    simp [keyOk, hc]
  · split at h <;> try (simp at h; done)
    rename_i hne hc
    simp only [Bool.and_eq_true, Bool.not_eq_true'] at hc
    obtain ⟨⟨⟨h1, h2⟩, h3⟩, h4⟩ := hc
    cases a <;> cases b <;> simp_all [keyOk, eqCell]

theorem keyOk_check {kt : TypeId} {k : Dt} {x : Value} (em : Bool) (h : keyOk P kt k = true) (hx : RepT M x k) : (Instr.checkKey em 10000 kt x).run P w = .ok () w := by
  unfold keyOk at h
  split at h
  · simp only [Bool.and_eq_true] at h
    obtain ⟨⟨h1, h2⟩, h3⟩ := h
    obtain ⟨xs, rfl, hl⟩ := hx.agg_inv
    exact plain_checkKey em 5 kt h2 10000 (by omega) _ _ (.inl ⟨h1, xs, rfl, hl, by rw [fitK_len h3, kinds_len h2]⟩) h3
  · simp only [Bool.and_eq_true, Bool.not_eq_true'] at h
    obtain ⟨⟨h1, h2⟩, h3⟩ := h
    exact plain_checkKey em 1 kt h2 10000 (by omega) _ _ (.inr ⟨h1, _, rfl, hx⟩) h3

theorem keyEq_run {kt : TypeId} {a b : Dt} {r : Bool} {x y : Value} (h : keyEq P kt a b = some r) (hx : RepT M x a) (hy : RepT M y b) : (Op.equal kt x y).run P w = .ok r w := by
  rw [equal_run]
  unfold keyEq at h
  split at h
  · split at h <;> try (simp at h; done)
    rename_i hc
    simp only [Bool.and_eq_true] at hc
    obtain ⟨⟨⟨h1, h2⟩, h3⟩, h4⟩ := hc
    obtain ⟨xs, rfl, hl⟩ := hx.agg_inv
    obtain ⟨ys, rfl, hl'⟩ := hy.agg_inv
    exact plain_eq 5 kt h2 _ (by omega) _ _ _ _ r (.inl ⟨h1, xs, rfl, hl, by rw [fitK_len h3, kinds_len h2]⟩) (.inl ⟨h1, ys, rfl, hl', by rw [fitK_len h4, kinds_len h2]⟩) h3 h4 h
  · split at h <;> try (simp at h; done)
    rename_i hc
    simp only [Bool.and_eq_true, Bool.not_eq_true'] at hc
    obtain ⟨⟨⟨h1, h2⟩, h3⟩, h4⟩ := hc
    exact plain_eq 1 kt h2 _ (by omega) _ _ _ _ r (.inr ⟨h1, _, rfl, hx⟩) (.inr ⟨h1, _, rfl, hy⟩) h3 h4 (by simp [eqCells, h])

theorem bytes_beq {a b : ByteArray} {l m : List UInt8} (h1 : a.data.toList = l) (h2 : b.data.toList = m) : (a == b) = (l == m) := by
  subst h1; subst h2
  obtain ⟨⟨a⟩⟩ := a; obtain ⟨⟨b⟩⟩ := b
  show (Array.mk a == Array.mk b) = (a == b)
  simp

theorem keyEq_now {d : TypeDesc} {kt : TypeId} {a b : Dt} {r r' : Bool} {x y : Value} (h : keyEq P kt a b = some r) (hx : RepT M x a) (hy : RepT M y b) (h' : Instr.sameNow d x y = some r') : r' = r := by
  unfold Instr.sameNow at h'
  split at h'
  · split at h' <;> simp at h'
    rename_i hk
    subst hk
    cases hx; cases hy
    unfold keyEq at h
    split at h
    · rename_i e _; cases e
    · split at h <;> simp [eqCell] at h
      rw [← h', h]
  · simp at h'
    cases hx; cases hy
    rename_i l1 e1 l2 e2
    unfold keyEq at h
    split at h
    · rename_i e _; cases e
    · split at h <;> simp [eqCell] at h
      rw [← h', ← h]; exact bytes_beq e1 e2
  · simp at h'
    cases hx; cases hy
    unfold keyEq at h
    split at h
    · rename_i e _; cases e
    · split at h <;> simp [eqCell] at h
      rw [← h', h]
  · simp at h'

theorem eqCell_bits {a b : Dt} {x y : Value} (n : Nat) (h : eqCell a b = some true) (hx : RepT M x a) (hy : RepT M y b) : Instr.sameBits n y x = true := by
  unfold eqCell at h
  split at h
  · split at h <;> simp at h
    rename_i hk; subst hk; subst h
    rw [hx.int_inv, hy.int_inv]; cases n <;> simp [Instr.sameBits]
  · simp at h; subst h
    rw [hx.bool_inv, hy.bool_inv]; cases n <;> simp [Instr.sameBits]
  · simp at h; subst h
    obtain ⟨s1, rfl, h1⟩ := hx.str_inv
    obtain ⟨s2, rfl, h2⟩ := hy.str_inv
    have : (s2 == s1) = true := by rw [bytes_beq h2 h1]; simp
    cases n <;> simpa [Instr.sameBits] using this
  · simp at h

theorem eqCells_bits (n : Nat) : ∀ {cs ds : List Dt} {xs ys : List Value}, eqCells cs ds = some true → RepL (RepT M) xs cs → RepL (RepT M) ys ds → (ys.zip xs).all (fun (x, y) => Instr.sameBits n x y) = true
  | [], ds, xs, ys, h, hx, hy => by rw [hx.nil_right]; simp
  | c :: cs, [], xs, ys, h, hx, hy => by simp [eqCells] at h
  | c :: cs, d :: ds, xs, ys, h, hx, hy => by
    obtain ⟨x, xs, rfl, h1, hx⟩ := hx.cons_right
    obtain ⟨y, ys, rfl, h2, hy⟩ := hy.cons_right
    simp only [eqCells] at h
    cases e1 : eqCell c d with
    | none => simp [e1] at h
    | some r1 =>
      simp only [e1] at h
      cases e2 : eqCells cs ds with
      | none => simp [e2] at h
      | some r2 =>
        simp [e2] at h
        obtain ⟨rfl, rfl⟩ := h
        have := eqCells_bits n e2 hx hy
        simp only [List.zip_cons_cons, List.all_cons, eqCell_bits n e1 h1 h2, this, Bool.and_self]

theorem keyEq_bits {kt : TypeId} {a b : Dt} {x y : Value} (h : keyEq P kt a b = some true) (hx : RepT M x a) (hy : RepT M y b) : Instr.sameBits 10000 y x = true := by
  unfold keyEq at h
  split at h
  · split at h <;> try (simp at h; done)
    obtain ⟨xs, rfl, hl⟩ := hx.agg_inv
    obtain ⟨ys, rfl, hl'⟩ := hy.agg_inv
    have hlen := eqCells_len h
    have e1 := hl.1; have e2 := hl'.1
    have hb := eqCells_bits 9999 h hl hl'
    show Instr.sameBits (9999 + 1) _ _ = true
    simp only [Instr.sameBits, Bool.and_eq_true, beq_iff_eq]
    exact ⟨by simp at e1 e2; omega, hb⟩
  · split at h <;> try (simp at h; done)
    exact eqCell_bits _ h hx hy

def RepE (Γ : Cx) (l : List MapEntry) (es : List Ent) : Prop :=
  l.length = es.length ∧ ∀ (i : Nat) (e : MapEntry) (d : Ent), l[i]? = some e → es[i]? = some d → RepT Γ.M e.key d.key ∧ Rep Γ e.val d.val ∧ e.born = d.born

def FindIs (P : Program) (Γ : Cx) (kt : TypeId) (k : Dt) (l : List MapEntry) (es : List Ent) (i : Nat) (res : Option (Nat × Ent)) (r : Option (Nat × Value)) : Prop :=
  match res with
  | none => r = none
  | some (j, e) => i ≤ j ∧ ∃ me, l[j - i]? = some me ∧ es[j - i]? = some e ∧ r = some (j, me.val) ∧ keyEq P kt k e.key = some true

theorem find_sound {d : TypeDesc} {kt : TypeId} {k : Dt} {x : Value} (hx : RepT Γ.M x k) : ∀ (l : List MapEntry) (es : List Ent) (i : Nat) (res : Option (Nat × Ent)),
    RepE Γ l es → findEnt P kt k es i = some res → ∃ r, (Instr.findAsking kt x l i).run P w = .ok r w ∧ (∀ r', Instr.findNow d x l i = some r' → r' = r) ∧ FindIs P Γ kt k l es i res r
  | [], es, i, res, hr, h => by
    have : es = [] := List.eq_nil_of_length_eq_zero (by simpa using hr.1.symm)
    subst this
    simp only [findEnt] at h
    split at h <;> simp at h
    subst h
    exact ⟨none, by simp [Instr.findAsking], fun r' h => by simp [Instr.findNow] at h; exact h.symm, rfl⟩
  | me :: l, es, i, res, hr, h => by
    cases es with
    | nil => have := hr.1; simp at this
    | cons e es =>
      obtain ⟨hk, hv, hb⟩ := hr.2 0 me e rfl rfl
      simp only [findEnt] at h
      cases he : keyEq P kt k e.key with
      | none => simp [he] at h
      | some b =>
        have hrun := keyEq_run (w := w) he hx hk
        simp only [he] at h
        cases b with
        | true =>
          simp at h; subst h
          refine ⟨some (i, me.val), by simp [Instr.findAsking, hrun], fun r' h' => ?_, Nat.le_refl _, me, by simp, by simp, rfl, he⟩
          simp only [Instr.findNow] at h'
          cases hn : Instr.sameNow d x me.key with
          | none => simp [hn] at h'
          | some b' => have := keyEq_now he hx hk hn; subst this; simp [hn] at h'; exact h'.symm
        | false =>
          have hr' : RepE Γ l es := ⟨by have := hr.1; simpa using this, fun j e d h1 h2 => hr.2 (j + 1) e d (by simpa using h1) (by simpa using h2)⟩
          obtain ⟨r, h1, h2, h3⟩ := find_sound (d := d) hx l es (i + 1) res hr' h
          refine ⟨r, by simp [Instr.findAsking, hrun, h1], fun r' h' => ?_, ?_⟩
          · simp only [Instr.findNow] at h'
            cases hn : Instr.sameNow d x me.key with
            | none => simp [hn] at h'
            | some b' => have := keyEq_now he hx hk hn; subst this; simp [hn] at h'; exact h2 r' h'
          · cases res with
            | none => exact h3
            | some je =>
              obtain ⟨j, e'⟩ := je
              obtain ⟨g1, me', g2, g3, g4, g5⟩ := h3
              have ej : j - i = (j - (i + 1)) + 1 := by omega
              exact ⟨by omega, me', by rw [ej]; simpa using g2, by rw [ej]; simpa using g3, g4, g5⟩

theorem run_find {d : TypeDesc} {kt : TypeId} {k : Dt} {x : Value} (hu : P.underlying kt = some d) (hx : RepT Γ.M x k) {l : List MapEntry} {es : List Ent} {res : Option (Nat × Ent)}
    (hr : RepE Γ l es) (h : findEnt P kt k es 0 = some res) : ∃ r, (Instr.findKey kt x l).run P w = .ok r w ∧ FindIs P Γ kt k l es 0 res r := by
  obtain ⟨r, h1, h2, h3⟩ := find_sound (w := w) (d := d) hx l es 0 res hr h
  refine ⟨r, ?_, h3⟩
  simp only [Instr.findKey, Sem.run_bind, run_und hu, Result.andThen_ok]
  cases hn : Instr.findNow d x l 0 with
  | none => simpa using h1
  | some r' => have := h2 r' hn; subst this; simp

end
end Go.DI

/-
  Maps at the level of the operation.
-/
namespace Go.DI
open Go

section
variable {P : Program} {w w' : World} {Γ Γ' : Cx} {s : St}

theorem findEnt_ok {kt : TypeId} {k : Dt} : ∀ {es : List Ent} {i : Nat} {res : Option (Nat × Ent)}, findEnt P kt k es i = some res → keyOk P kt k = true
  | [], i, res, h => by
    simp only [findEnt] at h
    split at h <;> simp at h
    assumption
  | e :: es, i, res, h => by
    simp only [findEnt] at h
    cases he : keyEq P kt k e.key with
    | none => simp [he] at h
    | some b => exact (keyEq_ok he).1

theorem keyOk_und {kt : TypeId} {k : Dt} (h : keyOk P kt k = true) : ∃ d, P.underlying kt = some d := by
  have hp : ∃ n, plainTy P n kt = true := by
    unfold keyOk at h
    split at h
    · simp only [Bool.and_eq_true] at h; exact ⟨5, h.1.2⟩
    · simp only [Bool.and_eq_true] at h; exact ⟨1, h.1.2⟩
  obtain ⟨n, hp⟩ := hp
  cases n with
  | zero => simp [plainTy] at hp
  | succ n => exact und_of_okT (plain_agg _ _ hp).1

theorem Rep.map_inv {v : Value} {id : Nat} (h : Rep Γ v (.map id)) : ∃ b, v = .map (some b) ∧ Γ.ρ[id]? = some b := by
  cases h; exact ⟨_, rfl, by assumption⟩
theorem Rep.iter_inv {v : Value} {id : Nat} (h : Rep Γ v (.iter id)) : ∃ b, v = .pointer (some ⟨b, 0, none⟩) ∧ Γ.ρ[id]? = some b := by
  cases h; exact ⟨_, rfl, by assumption⟩

theorem tup2 {u v : Value} {d e : D} (h1 : Rep Γ u d) (h2 : Rep Γ v e) : Rep Γ (.tuple #[u, v]) (.tup [d, e]) :=
  Rep.tup_of (.cons h1 (.cons h2 .nil))

theorem RepE.of {arr : Array MapEntry} {es : List Ent} (hsz : arr.size = es.length)
    (hr : ∀ (i : Nat) (e : MapEntry) (d : Ent), arr[i]? = some e → es[i]? = some d → RepT Γ.M e.key d.key ∧ Rep Γ e.val d.val ∧ e.born = d.born) : RepE Γ arr.toList es :=
  ⟨by simpa using hsz, fun i e d h1 h2 => hr i e d (by simpa using h1) h2⟩

/-- the map an operand names -/
theorem map_of {a : Act} {ts : List D} {x : Operand} {id : Nat} {es : List Ent} {clock : Nat} (hs : Sat Γ w s) (ha : RepA Γ a ts) (hx : ev ts x = .map id) (hob : s.obs[id]? = some (.map es clock)) :
    ∃ b arr, a.eval x = .map (some b) ∧ Γ.ρ[id]? = some b ∧ w.heap[b]? = some (.map arr clock) ∧ arr.size = es.length ∧ RepE Γ arr.toList es := by
  obtain ⟨b, hb, arr, hg, hsz, hr⟩ := hs.get_ρ hob
  have hxv := ev_rep ha x
  rw [hx] at hxv
  obtain ⟨b', hxv, hb'⟩ := hxv.map_inv
  rw [hb] at hb'; cases hb'
  exact ⟨b, arr, hxv, hb, hg, hsz, RepE.of hsz hr⟩

theorem g_lookup {a : Act} {o : Oper} {t kt e : TypeId} {x k : Operand} {ok : Bool} {ts : List D} {kd : Dt} {z d : D} {id : Nat} {s' : St} (ho : o.op = .lookup t x k ok) (hs : Sat Γ w s) (ha : RepA Γ a ts)
    (hu : P.underlying t = some (.map kt e)) (hk : (ev ts k).aggDt = some kd) (hz : zeroD P e = some z) (hx : ev ts x = .map id) (he : exec P (.lookup id kt kd z ok) s = .val d s') :
    Good P Γ a o w s' d := by
  simp only [exec] at he
  split at he <;> try (simp at he; done)
  rename_i es clock hob
  cases hf : findEnt P kt kd es 0 with
  | none => simp [hf] at he
  | some res =>
    obtain ⟨b, arr, hxv, hb, hg, hsz, hRE⟩ := map_of hs ha hx hob
    have hkv := aggDt_rep (ev_rep ha k) hk
    have hko := findEnt_ok hf
    obtain ⟨dk, huk⟩ := keyOk_und hko
    obtain ⟨r, hrun, his⟩ := run_find (w := w) huk hkv hRE hf
    have hck := keyOk_check (w := w) arr.isEmpty hko hkv
    have hgo := MapKept.run_getObj_map (P := P) hg
    cases res with
    | none =>
      have his : r = none := his
      subst his
      obtain ⟨zv, zi, hi, hzv, hzr⟩ := zeroD_rep (Γ := Γ) hz
      simp only [hf] at he
      injection he with e1 e2
      subst e1; subst e2
      refine .pure (v := if ok then .tuple #[zv, .bool false] else zv) ?_ ?_ hs
      · simp [execOp, ho, hxv, Instr.lookup, run_und hu, hgo, hck, hrun, run_zero hi hzv]
      · cases ok
        · exact hzr
        · exact tup2 hzr (.pv .bool)
    | some je =>
      obtain ⟨j, e'⟩ := je
      obtain ⟨_, me, h1, h2, rfl, h4⟩ := his
      simp only [hf] at he
      injection he with e1 e2
      subst e1; subst e2
      simp only [Nat.sub_zero] at h1 h2
      have hval := (hRE.2 j me e' h1 h2).2.1
      refine .pure (v := if ok then .tuple #[me.val, .bool true] else me.val) ?_ ?_ hs
      · simp [execOp, ho, hxv, Instr.lookup, run_und hu, hgo, hck, hrun]
      · cases ok
        · exact hval
        · exact tup2 hval (.pv .bool)

theorem g_lookup_nil {a : Act} {o : Oper} {t kt e : TypeId} {x k : Operand} {ok : Bool} {ts : List D} {kd : Dt} {z : D} (ho : o.op = .lookup t x k ok) (hs : Sat Γ w s) (ha : RepA Γ a ts)
    (hu : P.underlying t = some (.map kt e)) (hk : (ev ts k).aggDt = some kd) (hz : zeroD P e = some z) (hx : ev ts x = .pv .nilmap) (hko : keyOk P kt kd = true) :
    Good P Γ a o w s (if ok then .tup [z, .pv (.bool false)] else z) := by
  have hkv := aggDt_rep (ev_rep ha k) hk
  obtain ⟨dk, huk⟩ := keyOk_und hko
  have hck := keyOk_check (w := w) true hko hkv
  have hxv := ev_rep ha x
  rw [hx] at hxv
  have hxv : a.eval x = .map none := by
    have := hxv.pv_inv
    generalize a.eval x = v at this
    cases this; rfl
  obtain ⟨r, hrun, his⟩ := run_find (w := w) (Γ := Γ) (l := []) (es := []) (res := none) huk hkv ⟨rfl, fun i e d h => by simp at h⟩ (by simp [findEnt, hko])
  have his : r = none := his
  subst his
  obtain ⟨zv, zi, hi, hzv, hzr⟩ := zeroD_rep (Γ := Γ) hz
  refine .pure (v := if ok then .tuple #[zv, .bool false] else zv) ?_ ?_ hs
  · simp [execOp, ho, hxv, Instr.lookup, run_und hu, hck, hrun, run_zero hi hzv]
  · cases ok
    · exact hzr
    · exact tup2 hzr (.pv .bool)

/-- one object turns -/
theorem only_setObj (w : World) (b : Nat) (o : Obj) : Only w { w with heap := w.heap.setIfInBounds b o } b :=
  ⟨rfl, rfl, rfl, by simp, fun c hc hne => by simp [Ne.symm hne]⟩

theorem heap_setObj {w : World} {b : Nat} {o : Obj} (h : b < w.heap.size) : ({ w with heap := w.heap.setIfInBounds b o } : World).heap[b]? = some o := by
  simp [h]

theorem Good.mapPut {a : Act} {o : Oper} {id b : Nat} {es : List Ent} {arr : Array MapEntry} {clock : Nat} {d : D} {v : Value} (hs : Sat Γ w s) (hb : Γ.ρ[id]? = some b) (hr : RepE Γ arr.toList es)
    (hg : OpGives P a o w v { w with heap := w.heap.setIfInBounds b (.map arr clock) }) (hv : Rep Γ v d) : Good P Γ a o w (s.set id (.map es clock)) d := by
  obtain ⟨hsat, hfwd⟩ := hs.put (ob := .map es clock) hb (only_setObj w b (.map arr clock))
    ⟨arr, heap_setObj (hs.ρ_lt hb), by simpa using hr.1, fun i e d h1 h2 => hr.2 i e d (by simpa using h1) h2⟩
  exact ⟨v, _, Γ, hg, hv, hsat, hfwd⟩

theorem RepE.set {l : List MapEntry} {es : List Ent} (hr : RepE Γ l es) {i : Nat} {me : MapEntry} {e : Ent} (h : RepT Γ.M me.key e.key ∧ Rep Γ me.val e.val ∧ me.born = e.born) : RepE Γ (l.set i me) (es.set i e) := by
  refine ⟨by simp [hr.1], fun j x y hx hy => ?_⟩
  rw [List.getElem?_set] at hx hy
  by_cases hij : i = j
  · subst hij
    simp only [if_true] at hx hy
    split at hx <;> simp at hx
    split at hy <;> simp at hy
    subst hx; subst hy; exact h
  · simp only [hij, if_false] at hx hy
    exact hr.2 j x y hx hy

theorem RepE.push {l : List MapEntry} {es : List Ent} (hr : RepE Γ l es) {me : MapEntry} {e : Ent} (h : RepT Γ.M me.key e.key ∧ Rep Γ me.val e.val ∧ me.born = e.born) : RepE Γ (l ++ [me]) (es ++ [e]) := by
  refine ⟨by simp [hr.1], fun j x y hx hy => ?_⟩
  rcases get_append_one hx with hx | ⟨h1, rfl⟩
  · rcases get_append_one hy with hy | ⟨h2, rfl⟩
    · exact hr.2 j x y hx hy
    · have := (List.getElem?_eq_some_iff.1 hx).1; rw [hr.1] at this; omega
  · rcases get_append_one hy with hy | ⟨h2, rfl⟩
    · have := (List.getElem?_eq_some_iff.1 hy).1; rw [← hr.1] at this; omega
    · exact h

theorem modify_list {arr : Array MapEntry} {j : Nat} {me : MapEntry} (f : MapEntry → MapEntry) (h : arr.toList[j]? = some me) : (arr.modify j f).toList = arr.toList.set j (f me) := by
  apply List.ext_getElem?
  intro i
  rw [Array.getElem?_toList, Array.getElem?_modify, List.getElem?_set]
  have h' : arr[j]? = some me := by simpa using h
  by_cases e : j = i
  · subst e
    obtain ⟨h1, h2⟩ := Array.getElem?_eq_some_iff.1 h'
    simp [h1, h2]
  · simp [e]

theorem g_mput {a : Act} {o : Oper} {t kt e : TypeId} {m k x : Operand} {ts : List D} {kd : Dt} {d : D} {id : Nat} {s' : St} (ho : o.op = .mapUpdate t m k x) (hs : Sat Γ w s) (ha : RepA Γ a ts)
    (hu : P.underlying t = some (.map kt e)) (hk : (ev ts k).aggDt = some kd) (hx : ev ts m = .map id) (he : exec P (.mput id kt kd (normD (ev ts x))) s = .val d s') :
    Good P Γ a o w s' d := by
  simp only [exec] at he
  split at he <;> try (simp at he; done)
  rename_i es clock hob
  cases hf : findEnt P kt kd es 0 with
  | none => simp [hf] at he
  | some res =>
    obtain ⟨b, arr, hxv, hb, hg, hsz, hRE⟩ := map_of hs ha hx hob
    have hkv := aggDt_rep (ev_rep ha k) hk
    have hko := findEnt_ok hf
    obtain ⟨dk, huk⟩ := keyOk_und hko
    obtain ⟨r, hrun, his⟩ := run_find (w := w) huk hkv hRE hf
    have hck := keyOk_check (w := w) false hko hkv
    have hgo := MapKept.run_getObj_map (P := P) hg
    have hvx := normD_rep (ev_rep ha x)
    cases res with
    | none =>
      have his : r = none := his
      subst his
      simp only [hf] at he
      injection he with e1 e2
      subst e1; subst e2
      refine Good.mapPut (arr := arr.push { key := a.eval k, val := a.eval x, born := clock }) hs hb (by rw [Array.toList_push]; exact hRE.push ⟨hkv, hvx, rfl⟩) (.inr ⟨?_, rfl⟩) undef_rep
      simp [execOp, ho, hxv, Instr.mapUpdate, run_und hu, hgo, hck, hrun, MapKept.run_setObj_map _ hg]
    | some je =>
      obtain ⟨j, e'⟩ := je
      obtain ⟨_, me, h1, h2, rfl, h4⟩ := his
      simp only [hf] at he
      injection he with e1 e2
      subst e1; subst e2
      simp only [Nat.sub_zero] at h1 h2
      have hme := hRE.2 j me e' h1 h2
      have hbits := keyEq_bits h4 hkv hme.1
      have h1' : arr[j]? = some me := by simpa using h1
      refine Good.mapPut (arr := arr.modify j fun e => { e with key := a.eval k, val := a.eval x }) hs hb (by rw [modify_list _ h1]; exact hRE.set ⟨hkv, hvx, hme.2.2⟩) (.inr ⟨?_, rfl⟩) undef_rep
      simp [execOp, ho, hxv, Instr.mapUpdate, run_und hu, hgo, hck, hrun, h1', Instr.keyThatStays, hbits, MapKept.run_setObj_map _ hg]

theorem g_mentry {a : Act} {o : Oper} {t kt e : TypeId} {m k : Operand} {ts : List D} {kd : Dt} {z d : D} {id : Nat} {s' : St} (ho : o.op = .mapEntry t m k) (hs : Sat Γ w s) (ha : RepA Γ a ts)
    (hu : P.underlying t = some (.map kt e)) (hk : (ev ts k).aggDt = some kd) (hx : ev ts m = .map id) (hz : zeroD P e = some z) (he : exec P (.mentry id kt kd z) s = .val d s') :
    Good P Γ a o w s' d := by
  simp only [exec] at he
  split at he <;> try (simp at he; done)
  rename_i es clock hob
  cases hf : findEnt P kt kd es 0 with
  | none => simp [hf] at he
  | some res =>
    obtain ⟨b, arr, hxv, hb, hg, hsz, hRE⟩ := map_of hs ha hx hob
    have hkv := aggDt_rep (ev_rep ha k) hk
    have hko := findEnt_ok hf
    obtain ⟨dk, huk⟩ := keyOk_und hko
    obtain ⟨r, hrun, his⟩ := run_find (w := w) huk hkv hRE hf
    have hck := keyOk_check (w := w) false hko hkv
    have hgo := MapKept.run_getObj_map (P := P) hg
    cases res with
    | none =>
      have his : r = none := his
      subst his
      obtain ⟨zv, zi, hi, hzv, hzr⟩ := zeroD_rep (Γ := Γ) hz
      simp only [hf] at he
      injection he with e1 e2
      subst e1; subst e2
      refine Good.mapPut (arr := arr.push { key := a.eval k, val := zv, born := clock }) (v := .tuple #[zv, goInt clock]) hs hb (by rw [Array.toList_push]; exact hRE.push ⟨hkv, hzr, rfl⟩) (.inl ?_) (tup2 hzr (.pv .int))
      simp [execOp, ho, hxv, Instr.mapEntry, run_und hu, hgo, hck, hrun, run_zero hi hzv, MapKept.run_setObj_map _ hg]
    | some je =>
      obtain ⟨j, e'⟩ := je
      obtain ⟨_, me, h1, h2, rfl, h4⟩ := his
      simp only [hf] at he
      injection he with e1 e2
      subst e1; subst e2
      simp only [Nat.sub_zero] at h1 h2
      have hme := hRE.2 j me e' h1 h2
      have hbits := keyEq_bits h4 hkv hme.1
      have h1' : arr[j]? = some me := by simpa using h1
      refine Good.mapPut (arr := arr.modify j fun e => { e with key := a.eval k }) (v := .tuple #[me.val, goInt me.born]) hs hb (by rw [modify_list _ h1]; exact hRE.set ⟨hkv, hme.2.1, hme.2.2⟩) (.inl ?_) (by rw [hme.2.2]; exact tup2 hme.2.1 (.pv .int))
      simp [execOp, ho, hxv, Instr.mapEntry, run_und hu, hgo, hck, hrun, h1', Instr.keyThatStays, hbits, MapKept.run_setObj_map _ hg]

theorem findIdx_rep {l : List MapEntry} {es : List Ent} (hr : RepE Γ l es) (n : Int) : l.findIdx? (fun e => (e.born : Int) == n) = es.findIdx? (fun e => (e.born : Int) == n) := by
  have e : l.map (fun e => (e.born : Int)) = es.map (fun e => (e.born : Int)) := by
    apply List.ext_getElem?
    intro i
    rw [List.getElem?_map, List.getElem?_map]
    by_cases h : i < l.length
    · have h' : i < es.length := by rw [← hr.1]; exact h
      rw [List.getElem?_eq_getElem h, List.getElem?_eq_getElem h']
      simp [(hr.2 i _ _ (List.getElem?_eq_getElem h) (List.getElem?_eq_getElem h')).2.2]
    · rw [List.getElem?_eq_none (by omega), List.getElem?_eq_none (by rw [← hr.1]; omega)]; rfl
  have h1 : l.findIdx? (fun e => (e.born : Int) == n) = (l.map (fun e => (e.born : Int))).findIdx? (fun b => b == n) := by rw [List.findIdx?_map]; rfl
  have h2 : es.findIdx? (fun e => (e.born : Int) == n) = (es.map (fun e => (e.born : Int))).findIdx? (fun b => b == n) := by rw [List.findIdx?_map]; rfl
  rw [h1, h2, e]

theorem g_estore {a : Act} {o : Oper} {t : TypeId} {m st x : Operand} {ts : List D} {d : D} {ik : IntKind} {n : Int} {id : Nat} {s' : St} (ho : o.op = .entryStore t m st x) (hs : Sat Γ w s) (ha : RepA Γ a ts)
    (hx : ev ts m = .map id) (hn : ev ts st = .pv (.int ik n)) (he : exec P (.estore id n (normD (ev ts x))) s = .val d s') : Good P Γ a o w s' d := by
  simp only [exec] at he
  split at he <;> try (simp at he; done)
  rename_i es clock hob
  obtain ⟨b, arr, hxv, hb, hg, hsz, hRE⟩ := map_of hs ha hx hob
  have hgo := MapKept.run_getObj_map (P := P) hg
  have hvx := normD_rep (ev_rep ha x)
  have hnv := ev_rep ha st
  rw [hn] at hnv
  have hnv := hnv.pv_inv.int_inv
  split at he <;> try (simp at he; done)
  rename_i i hfi
  split at he <;> try (simp at he; done)
  rename_i e he1
  injection he with e1 e2
  subst e1; subst e2
  have hi : i < arr.toList.length := by rw [hRE.1]; exact (List.getElem?_eq_some_iff.1 he1).1
  have hme := hRE.2 i _ e (List.getElem?_eq_getElem hi) he1
  have hfi' : arr.findIdx? (fun e => (e.born : Int) == n) = some i := by
    have h1 := List.findIdx?_toArray (fun e : MapEntry => (e.born : Int) == n) arr.toList
    rw [Array.toArray_toList] at h1
    rw [h1, findIdx_rep hRE, hfi]
  refine Good.mapPut (arr := arr.modify i fun e => { e with val := a.eval x }) hs hb (by rw [modify_list _ (List.getElem?_eq_getElem hi)]; exact hRE.set ⟨hme.1, hvx, hme.2.2⟩) (.inr ⟨?_, rfl⟩) undef_rep
  simp [execOp, ho, hxv, hnv, Instr.entryStore, hgo, asInt, asIntOf, hfi', MapKept.run_setObj_map _ hg]

end
end Go.DI

/-
  Maps: deletion, length, ranges; the other operations.
-/
namespace Go.DI
open Go

section
variable {P : Program} {w w' : World} {Γ Γ' : Cx} {s : St}

theorem RepE.erase {l : List MapEntry} {es : List Ent} (hr : RepE Γ l es) (i : Nat) : RepE Γ (l.eraseIdx i) (es.eraseIdx i) := by
  refine ⟨by rw [List.length_eraseIdx, List.length_eraseIdx, hr.1], fun j x y hx hy => ?_⟩
  rw [List.getElem?_eraseIdx] at hx hy
  split at hx
  · simp only [*, if_true] at hy; exact hr.2 j x y hx hy
  · rename_i hji; simp only [hji, if_false] at hy; exact hr.2 (j + 1) x y hx hy

theorem exec_builtin {a : Act} {o : Oper} {c : Call} {b : Builtin} (ho : o.op = .call c) (hc : c.callee = .builtin b) :
    execOp a.eval o = builtin b c.argTypes o.type (c.args.map fun | .const _ => true | _ => false) (c.args.map a.eval) := by
  simp only [execOp, ho, resolve, hc]
  rfl

theorem g_mdel {a : Act} {o : Oper} {c : Call} {t kt e : TypeId} {m k : Operand} {ts : List D} {kd : Dt} {d : D} {id : Nat} {s' : St} (ho : o.op = .call c) (hc : c.callee = .builtin .delete)
    (hargs : c.args = #[m, k]) (h0 : c.argTypes[0]? = some t) (hs : Sat Γ w s) (ha : RepA Γ a ts) (hu : P.underlying t = some (.map kt e)) (hk : (ev ts k).aggDt = some kd) (hx : ev ts m = .map id)
    (he : exec P (.mdel id kt kd) s = .val d s') : Good P Γ a o w s' d := by
  simp only [exec] at he
  split at he <;> try (simp at he; done)
  rename_i es clock hob
  cases hf : findEnt P kt kd es 0 with
  | none => simp [hf] at he
  | some res =>
    obtain ⟨b, arr, hxv, hb, hg, hsz, hRE⟩ := map_of hs ha hx hob
    have hkv := aggDt_rep (ev_rep ha k) hk
    have hko := findEnt_ok hf
    obtain ⟨dk, huk⟩ := keyOk_und hko
    obtain ⟨r, hrun, his⟩ := run_find (w := w) huk hkv hRE hf
    have hck := keyOk_check (w := w) arr.isEmpty hko hkv
    have hgo := MapKept.run_getObj_map (P := P) hg
    cases res with
    | none =>
      have his : r = none := his
      subst his
      simp only [hf] at he
      injection he with e1 e2
      subst e1; subst e2
      have hsame : ({ w with heap := w.heap.setIfInBounds b (.map arr clock) } : World) = w := by
        have : w.heap.setIfInBounds b (.map arr clock) = w.heap := by
          apply Array.ext_getElem?
          intro i
          by_cases hi : b = i
          · subst hi
            rw [Array.getElem?_setIfInBounds_self]
            rw [if_pos (hs.ρ_lt hb)]; exact hg.symm
          · rw [Array.getElem?_setIfInBounds_ne hi]
        rw [this]
      refine .pure (v := .tuple #[]) ?_ undef_rep hs
      rw [exec_builtin ho hc]
      simp [builtin, Builtin.delete_, hargs, h0, hxv, run_und hu, hgo, hck, hrun, MapKept.run_setObj_map _ hg, hsame]
    | some je =>
      obtain ⟨j, e'⟩ := je
      obtain ⟨_, me, h1, h2, rfl, h4⟩ := his
      simp only [hf] at he
      injection he with e1 e2
      subst e1; subst e2
      refine Good.mapPut (arr := arr.eraseIdxIfInBounds j) hs hb (by rw [Array.toList_eraseIdxIfInBounds]; exact hRE.erase j) (v := .tuple #[]) (.inl ?_) undef_rep
      rw [exec_builtin ho hc]
      simp [builtin, Builtin.delete_, hargs, h0, hxv, run_und hu, hgo, hck, hrun, MapKept.run_setObj_map _ hg]

theorem g_mlen {a : Act} {o : Oper} {c : Call} {t kt e : TypeId} {m : Operand} {ts : List D} {d : D} {id : Nat} {s' : St} (ho : o.op = .call c) (hc : c.callee = .builtin .len)
    (hargs : c.args = #[m]) (h0 : c.argTypes[0]? = some t) (hs : Sat Γ w s) (ha : RepA Γ a ts) (hu : P.underlying t = some (.map kt e)) (hx : ev ts m = .map id)
    (he : exec P (.mlen id) s = .val d s') : Good P Γ a o w s' d := by
  simp only [exec] at he
  split at he <;> try (simp at he; done)
  rename_i es clock hob
  obtain ⟨b, arr, hxv, hb, hg, hsz, hRE⟩ := map_of hs ha hx hob
  have hgo := MapKept.run_getObj_map (P := P) hg
  injection he with e1 e2
  subst e1; subst e2
  refine .pure (v := goInt arr.size) ?_ (by rw [hsz]; exact .pv .int) hs
  rw [exec_builtin ho hc]
  simp [builtin, Builtin.len_, hargs, h0, hxv, run_und hu, hgo]

theorem g_len {a : Act} {o : Oper} {c : Call} {t : TypeId} {x : Operand} {n : Nat} (ho : o.op = .call c) (hc : c.callee = .builtin .len)
    (hargs : c.args = #[x]) (h0 : c.argTypes[0]? = some t) (hs : Sat Γ w s)
    (h : (Builtin.len_ #[t] o.type #[a.eval x]).run P w = .ok (goInt n) w) : Good P Γ a o w s (.pv (.int .i64 n)) := by
  refine .pure (v := goInt n) ?_ (.pv .int) hs
  have : Builtin.len_ c.argTypes o.type (c.args.map a.eval) = Builtin.len_ #[t] o.type #[a.eval x] := by
    simp [Builtin.len_, hargs, h0]
  rw [exec_builtin ho hc]
  simp only [builtin, this, Sem.run_bind, h]
  rfl

theorem minMax_sound (isMax : Bool) : ∀ (r : List D) (x d : D) (vx : Value) (vr : List Value), minMaxD isMax x r = some d → Rep Γ vx x → RepL (Rep Γ) vr r →
    ∃ v, (vr.foldlM (if isMax then Builtin.max2 else Builtin.min2) vx : Sem Value).run P w = .ok v w ∧ Rep Γ v d
  | [], x, d, vx, vr, h, hx, hr => by
    rw [hr.nil_right]
    simp [minMaxD] at h; subst h
    exact ⟨vx, rfl, hx⟩
  | y :: r, x, d, vx, vr, h, hx, hr => by
    obtain ⟨vy, vr, rfl, hy, hr'⟩ := hr.cons_right
    clear hr
    unfold minMaxD at h
    split at h
    · rename_i e; cases e
    · rename_i e1 e2
      injection e2 with e2 e3
      subst e2; subst e3
      split at h <;> try (simp at h; done)
      rename_i hk
      subst hk
      have h1 := hx.pv_inv.int_inv; have h2 := hy.pv_inv.int_inv
      subst h1; subst h2
      obtain ⟨v, hv, hvr⟩ := minMax_sound isMax r _ d _ vr h (.pv .int) hr'
      refine ⟨v, ?_, hvr⟩
      cases isMax <;> simpa [List.foldlM_cons, Builtin.max2, Builtin.min2] using hv
    · simp at h

theorem g_minMax {a : Act} {o : Oper} {c : Call} {isMax : Bool} {ts : List D} {x d : D} {r : List D} (ho : o.op = .call c) (hc : c.callee = .builtin (if isMax then .max else .min))
    (hs : Sat Γ w s) (ha : RepA Γ a ts) (hargs : c.args.toList.map (ev ts) = x :: r) (h : minMaxD isMax x r = some d) : Good P Γ a o w s d := by
  have hl : RepL (Rep Γ) (c.args.map a.eval).toList (c.args.toList.map (ev ts)) := by
    rw [Array.toList_map]
    exact ⟨by simp, fun i v d hv hd => by
      rw [List.getElem?_map] at hv hd
      cases hx : c.args.toList[i]? with
      | none => simp [hx] at hv
      | some y => simp [hx] at hv hd; subst hv; subst hd; exact ev_rep ha y⟩
  rw [hargs] at hl
  obtain ⟨vx, vr, hvl, hx, hr⟩ := hl.cons_right
  obtain ⟨v, hv, hvr⟩ := minMax_sound (P := P) (w := w) isMax r x d vx vr h hx hr
  refine .pure (v := v) ?_ hvr hs
  rw [exec_builtin ho hc]
  cases isMax <;> simp only [Bool.false_eq_true, if_false, if_true, builtin, Builtin.max_, Builtin.min_, hvl, Sem.run_bind] <;> simp only [Bool.false_eq_true, if_false, if_true] at hv <;> rw [hv] <;> rfl

theorem g_mkMap {a : Act} {o : Oper} {t : TypeId} {r : Option Operand} (ho : o.op = .makeMap t r) (hs : Sat Γ w s)
    (h : ∀ x, r = some x → (∃ kt e, P.underlying t = some (.map kt e)) ∧ ∃ k n, a.eval x = .int k n) : Good P Γ a o w (s.add (.map [] 0)) (.map s.obs.length) := by
  obtain ⟨hsat, hfwd⟩ := hs.add (o := .map #[] 0) (ob := .map [] 0) ⟨#[], heap_alloc_self w _, rfl, fun i e d h => by simp at h⟩
  refine ⟨.map (some w.heap.size), w.alloc (.map #[] 0), _, .inl ?_, .map (by rw [← hs.len]; exact get_append_self _ _), hsat, hfwd⟩
  cases r with
  | none => simp [execOp, ho, Instr.makeMap]
  | some x =>
    obtain ⟨⟨kt, e, hu⟩, k, n, hx⟩ := h x rfl
    simp [execOp, ho, Instr.makeMap, run_und hu, hx, asInt, asIntOf]

theorem g_mkIter {a : Act} {o : Oper} {t : TypeId} {x : Operand} {ob : Ob} {it : Obj} (ho : o.op = .range t x) (hs : Sat Γ w s)
    (hrep : ORep (Γ.addρ w.heap.size) (w.alloc it) w.heap.size ob)
    (h : (Instr.range t (a.eval x)).run P w = .ok (.pointer (some ⟨w.heap.size, 0, none⟩)) (w.alloc it)) : Good P Γ a o w (s.add ob) (.iter s.obs.length) := by
  obtain ⟨hsat, hfwd⟩ := hs.add hrep
  refine ⟨_, _, _, .inl ?_, .iter (by rw [← hs.len]; exact get_append_self _ _), hsat, hfwd⟩
  simp [execOp, ho, h]

theorem iter_of {a : Act} {ts : List D} {x : Operand} {id : Nat} {m : Option Nat} {since stepped : Nat} {seen : List Nat} (hs : Sat Γ w s) (ha : RepA Γ a ts) (hx : ev ts x = .iter id)
    (hob : s.obs[id]? = some (.mapIter m since seen stepped)) :
    ∃ b m', a.eval x = .pointer (some ⟨b, 0, none⟩) ∧ Γ.ρ[id]? = some b ∧ w.heap[b]? = some (.mapIter m' since seen.toArray stepped) ∧
      (m = none → m' = none) ∧ (∀ j, m = some j → ∃ c, Γ.ρ[j]? = some c ∧ m' = some c) := by
  obtain ⟨b, hb, m', hg, hm⟩ := hs.get_ρ hob
  have hxv := ev_rep ha x
  rw [hx] at hxv
  obtain ⟨b', hxv, hb'⟩ := hxv.iter_inv
  rw [hb] at hb'; cases hb'
  refine ⟨b, m', hxv, hb, hg, fun e => ?_, fun j e => ?_⟩
  · subst e; exact hm
  · subst e; exact hm

def notRow : Obj → Prop
  | .cells .. => False
  | _ => True

theorem run_getObj {r : Nat} {ob : Obj} (hn : notRow ob) (hb : w.heap[r]? = some ob) : (getObj r).run P w = .ok ob w := by
  cases ob <;> first | exact hn.elim | simp [getObj, Sem.run, hb]
theorem run_setObj {r : Nat} {ob : Obj} (hn : notRow ob) (o : Obj) (hb : w.heap[r]? = some ob) : (setObj r o).run P w = .ok () { w with heap := w.heap.setIfInBounds r o } := by
  cases ob <;> first | exact hn.elim | simp [setObj, Sem.run, hb]

theorem g_entry {a : Act} {o : Oper} {x : Operand} {ts : List D} {id : Nat} {d : D} {s' : St} (ho : o.op = .entry x) (hs : Sat Γ w s) (ha : RepA Γ a ts) (hx : ev ts x = .iter id)
    (he : exec P (.entry id) s = .val d s') : Good P Γ a o w s' d := by
  simp only [exec] at he
  split at he <;> try (simp at he; done)
  rename_i m since seen stepped hob
  split at he <;> try (simp at he; done)
  rename_i es clock hmo
  split at he <;> try (simp at he; done)
  rename_i stamp hlast
  split at he <;> try (simp at he; done)
  rename_i hclk
  split at he <;> try (simp at he; done)
  rename_i e hfind
  injection he with e1 e2
  subst e1; subst e2
  obtain ⟨b, m', hxv, hb, hg, _, hm⟩ := iter_of hs ha hx hob
  obtain ⟨c, hc, rfl⟩ := hm _ rfl
  obtain ⟨c', hc', arr, hgm, hsz, hr⟩ := hs.get_ρ hmo
  rw [hc] at hc'; cases hc'
  have hRE := RepE.of hsz hr
  obtain ⟨i, hi⟩ : ∃ i, es.findIdx? (fun e => (e.born : Int) == (stamp : Int)) = some i ∧ es[i]? = some e := by
    have h1 : es.find? (fun e => (e.born : Int) == (stamp : Int)) = some e := by
      rw [← hfind]; congr 1; funext e; rw [Bool.eq_iff_iff]; simp only [beq_iff_eq]; omega
    rw [List.find?_eq_some_iff_getElem] at h1
    obtain ⟨h2, i, h3, h4, h5⟩ := h1
    refine ⟨i, ?_, by rw [List.getElem?_eq_getElem h3, h4]⟩
    rw [List.findIdx?_eq_some_iff_getElem]
    exact ⟨h3, by rw [h4]; exact h2, fun j hj => by simpa using h5 j hj⟩
  rw [← findIdx_rep hRE] at hi
  obtain ⟨hfi, hei⟩ := hi
  have hil : i < arr.toList.length := by rw [hRE.1]; exact (List.getElem?_eq_some_iff.1 hei).1
  have hme := hRE.2 i _ e (List.getElem?_eq_getElem hil) hei
  have hfa : arr.find? (fun e => e.born == stamp) = some arr.toList[i] := by
    rw [← Array.find?_toList, List.find?_eq_some_iff_getElem]
    rw [List.findIdx?_eq_some_iff_getElem] at hfi
    obtain ⟨h1, h2, h3⟩ := hfi
    simp only [beq_iff_eq] at h2 h3 ⊢
    exact ⟨by omega, i, h1, rfl, fun j hj => by have := h3 j hj; simp only [Bool.not_eq_true', beq_eq_false_iff_ne, ne_eq]; omega⟩
  have hback : seen.toArray.back? = some stamp := by simpa using hlast
  have gi := run_getObj (P := P) (ob := .mapIter (some c) since seen.toArray stepped) trivial hg
  have gm := run_getObj (P := P) (ob := .map arr clock) trivial hgm
  refine .pure (v := .tuple #[arr.toList[i].key, arr.toList[i].val]) ?_ (tup2 (.pv hme.1) hme.2.1) hs
  simp [execOp, ho, hxv, Instr.entry, gi, gm, hback, hclk, hfa]

/-- one of several comes -/
def GoodC (P : Program) (Γ : Cx) (a : Act) (o : Oper) (w : World) (cs : List (D × St)) : Prop :=
  ∃ d s', (d, s') ∈ cs ∧ Good P Γ a o w s' d

theorem g_next_nil {a : Act} {o : Oper} {x : Operand} {ts : List D} {id since stepped : Nat} {seen : List Nat} (ho : o.op = .next x false) (hs : Sat Γ w s) (ha : RepA Γ a ts) (hx : ev ts x = .iter id)
    (hob : s.obs[id]? = some (.mapIter none since seen stepped)) : Good P Γ a o w s (.pv (.tup [.bool false])) := by
  obtain ⟨b, m', hxv, hb, hg, hm, _⟩ := iter_of hs ha hx hob
  have := hm rfl; subst this
  have gi := run_getObj (P := P) (ob := .mapIter none since seen.toArray stepped) trivial hg
  refine .pure (v := .tuple #[.bool false]) ?_ (.pv (RepT.tup_of (.cons .bool .nil))) hs
  simp [execOp, ho, hxv, Instr.next, gi]

theorem filter_rep {l : List MapEntry} {es : List Ent} (p : Nat → Bool) : RepE Γ l es → RepE Γ (l.filter fun e => p e.born) (es.filter fun e => p e.born) := by
  intro hr
  induction l generalizing es with
  | nil =>
    have : es = [] := List.eq_nil_of_length_eq_zero (by simpa using hr.1.symm)
    subst this; exact hr
  | cons me l ih =>
    cases es with
    | nil => have := hr.1; simp at this
    | cons e es =>
      have h0 := hr.2 0 me e rfl rfl
      have hr' : RepE Γ l es := ⟨by have := hr.1; simpa using this, fun j e d h1 h2 => hr.2 (j + 1) e d (by simpa using h1) (by simpa using h2)⟩
      have := ih hr'
      simp only [List.filter_cons, h0.2.2]
      split
      · refine ⟨by simp [this.1], fun j x y hx hy => ?_⟩
        cases j with
        | zero => simp at hx hy; subst hx; subst hy; exact h0
        | succ j => exact this.2 j x y (by simpa using hx) (by simpa using hy)
      · exact this

theorem g_next {a : Act} {o : Oper} {x : Operand} {ts : List D} {id mid since stepped clock : Nat} {seen : List Nat} {es : List Ent} (ho : o.op = .next x false) (hs : Sat Γ w s) (ha : RepA Γ a ts) (hx : ev ts x = .iter id)
    (hob : s.obs[id]? = some (.mapIter (some mid) since seen stepped)) (hmo : s.obs[mid]? = some (.map es clock)) (hc : clock = since ∧ stepped = since ∧ es.all (fun e => decide (e.born < since)) = true) :
    ((es.filter fun e => !seen.contains e.born) = [] → Good P Γ a o w s (.pv (.tup [.bool false]))) ∧
    ((es.filter fun e => !seen.contains e.born) ≠ [] → GoodC P Γ a o w ((es.filter fun e => !seen.contains e.born).map fun e => (.tup [.pv (.bool true), .pv e.key, e.val], s.set id (.mapIter (some mid) since (seen ++ [e.born]) clock)))) := by
  obtain ⟨e1, e2, hall⟩ := hc
  subst e2; subst e1
  obtain ⟨b, m', hxv, hb, hg, _, hm⟩ := iter_of hs ha hx hob
  obtain ⟨c, hc, rfl⟩ := hm _ rfl
  obtain ⟨c', hc', arr, hgm, hsz, hr⟩ := hs.get_ρ hmo
  rw [hc] at hc'; cases hc'
  have hRE := RepE.of hsz hr
  have gi := run_getObj (P := P) (ob := .mapIter (some c) clock seen.toArray clock) trivial hg
  have gm := run_getObj (P := P) (ob := .map arr clock) trivial hgm
  have hlt : ∀ me ∈ arr.toList, me.born < clock := by
    intro me hme
    obtain ⟨i, hi⟩ := List.mem_iff_getElem?.1 hme
    have hil : i < es.length := by rw [← hRE.1]; exact (List.getElem?_eq_some_iff.1 hi).1
    have := (hRE.2 i me _ hi (List.getElem?_eq_getElem hil)).2.2
    rw [this]
    have := List.all_eq_true.1 hall _ (List.getElem_mem hil)
    simpa using this
  have hfl := filter_rep (fun n => !seen.contains n) hRE
  generalize hleft : (arr.toList.filter fun e => !seen.contains e.born) = left at hfl
  generalize hles : (es.filter fun e => !seen.contains e.born) = les at hfl
  have hnot : (!seen.toArray.isEmpty && !arr.isEmpty && arr.all (·.born ≥ clock)) = false := by
    rw [Bool.and_eq_false_iff]
    by_cases h : arr.isEmpty = true
    · left; simp [h]
    · right
      have hne : arr.toList ≠ [] := by simpa using h
      obtain ⟨me, l, hl⟩ := List.exists_cons_of_ne_nil hne
      have hm : me ∈ arr.toList := by rw [hl]; simp
      rw [← Bool.not_eq_true]
      intro hh
      have := Array.all_eq_true_iff_forall_mem.1 hh me (Array.mem_toList_iff.1 hm)
      have h2 := hlt me hm
      simp at this; omega
  have hlefta : (arr.filter fun e => !seen.toArray.contains e.born) = left.toArray := by
    rw [← hleft]
    apply Array.ext'
    rw [Array.toList_filter]
    simp
  have hold : (left.toArray.filter (·.born < clock)) = left.toArray := by
    rw [Array.filter_eq_self]
    intro me hme
    have : me ∈ arr.toList := by
      have : me ∈ left := by simpa using hme
      rw [← hleft] at this
      exact (List.mem_filter.1 this).1
    simpa using hlt me this
  have hnew : (left.toArray.filter (·.born ≥ clock)) = #[] := by
    rw [Array.filter_eq_empty_iff]
    intro me hme
    have : me ∈ arr.toList := by
      have : me ∈ left := by simpa using hme
      rw [← hleft] at this
      exact (List.mem_filter.1 this).1
    have := hlt me this
    simp; omega
  constructor
  · intro hn
    subst hn
    have : left = [] := List.eq_nil_of_length_eq_zero (by simpa using hfl.1)
    subst this
    refine .pure (v := .tuple #[.bool false]) ?_ (.pv (RepT.tup_of (.cons .bool .nil))) hs
    simp only [execOp, ho, hxv, Instr.next, Sem.run_bind, gi, gm, Result.andThen_ok, hnot, hlefta, hold, hnew]
    simp [Question.forced]
  · intro hn
    have hlen : 0 < left.length := by rw [hfl.1]; exact List.length_pos_iff.2 hn
    have hne : left.toArray.isEmpty = false := by cases left with | nil => simp at hlen | cons => rfl
    -- the world behind the choice
    obtain ⟨i, w1, hi, hrun, hw1⟩ : ∃ i w1, i < left.length ∧ (choose (.mapNext left.length)).run P w = .ok i w1 ∧ (w1 = w ∨ w1 = w.drew) := by
      by_cases hf : left.length ≤ 1
      · exact ⟨0, w, hlen, by simp [Question.forced, hf], .inl rfl⟩
      · refine ⟨(Question.mapNext left.length).cut (w.tape w.drawn (.mapNext left.length)), w.drew, ?_, ?_, .inr rfl⟩
        · simp only [Question.cut]; exact Nat.mod_lt _ hlen
        · rw [run_choose_drew, if_neg (by simpa [Question.forced] using hf)]
    have hil : i < les.length := by rw [← hfl.1]; exact hi
    have hme := hfl.2 i _ _ (List.getElem?_eq_getElem hi) (List.getElem?_eq_getElem hil)
    have hheap : w1.heap = w.heap := by rcases hw1 with rfl | rfl <;> rfl
    obtain ⟨hs1, hf1⟩ : Sat Γ w1 s ∧ Fwd Γ w Γ w1 := by
      rcases hw1 with rfl | rfl
      · exact ⟨hs, .refl _ _⟩
      · exact hs.drew
    have hg1 : w1.heap[b]? = some (.mapIter (some c) clock seen.toArray clock) := by rw [hheap]; exact hg
    obtain ⟨hs2, hf2⟩ := hs1.put (ob := .mapIter (some mid) clock (seen ++ [les[i].born]) clock) hb (only_setObj w1 b (.mapIter (some c) clock (seen.toArray.push left[i].born) clock))
      ⟨some c, by rw [heap_setObj (by rw [hheap]; exact hs.ρ_lt hb), hme.2.2]; simp, c, hc, rfl⟩
    refine ⟨.tup [.pv (.bool true), .pv les[i].key, les[i].val], _, List.mem_map.2 ⟨les[i], List.getElem_mem hil, rfl⟩, .tuple #[.bool true, left[i].key, left[i].val], _, Γ, .inl ?_,
      Rep.tup_of (.cons (.pv .bool) (.cons (.pv hme.1) (.cons hme.2.1 .nil))), hs2, hf1.trans hf2⟩
    have hcand : ((if left.toArray.isEmpty then #[none] else #[]) ++ (left.toArray ++ #[]).map some : Array (Option MapEntry)) = (left.map some).toArray := by
      rw [hne]; simp
    simp only [execOp, ho, hxv, Instr.next, Sem.run_bind, gi, gm, Result.andThen_ok, hnot, hlefta, hold, hnew, hcand]
    simp only [List.size_toArray, List.length_map, Bool.false_eq_true, if_false, Sem.run_bind, Sem.run_pure, Result.andThen_ok, hrun]
    simp [hi, run_setObj (P := P) (ob := .mapIter (some c) clock seen.toArray clock) trivial _ hg1]

end
end Go.DI

/-
  The other operations; what the evaluator's operation gives, the machine's gives.
-/
namespace Go.DI
open Go

section
variable {P : Program} {w w' : World} {Γ Γ' : Cx} {s : St}

theorem push_list : ∀ (es : List Dt) (l : List UInt8) (r : ByteArray), omap byteOf? es = some l →
    ∃ ns : List Int, es = ns.map (Dt.int .u8) ∧ (ns.foldl (fun r n => r.push (UInt8.ofNat n.toNat)) r).data.toList = r.data.toList ++ l
  | [], l, r, h => by simp [omap] at h; subst h; exact ⟨[], rfl, by simp⟩
  | e :: es, l, r, h => by
    simp only [omap] at h
    cases he : byteOf? e with
    | none => simp [he] at h
    | some b =>
      simp only [he] at h
      cases hl : omap byteOf? es with
      | none => simp [hl] at h
      | some l' =>
        simp [hl] at h; subst h
        unfold byteOf? at he
        split at he <;> simp at he
        rename_i n
        obtain ⟨ns, h1, h2⟩ := push_list es l' (r.push (UInt8.ofNat n.toNat)) hl
        refine ⟨n :: ns, by simp [h1], ?_⟩
        rw [List.foldl_cons, h2, ← he]
        simp [ByteArray.push]

theorem flat_ints (ns : List Int) : flat (ns.map (Dt.int .u8)) = ns.map (Dt.int .u8) := by
  induction ns with
  | nil => rfl
  | cons n ns ih => simp only [flat, List.map_cons, List.flatMap_cons] at ih ⊢; rw [ih]; rfl

theorem g_toStr {a : Act} {o : Oper} {src dst e : TypeId} {x : Operand} {y : D} {sz : Nat} {nl : Bool} {es : List Dt} {l : List UInt8} (ho : o.op = .convert src dst x) (hu1 : P.underlying src = some (.slice e))
    (hu : P.underlying dst = some .string) (he : P.underlying e = some (.int .u8)) (hs : Sat Γ w s) (hx : Rep Γ (a.eval x) y) (hl : listOf y = some (sz, nl, es)) (hb : omap byteOf? es = some l) (hsz : sz = 1 ∨ nl = true) :
    Good P Γ a o w s (.pv (.str l)) := by
  have hr := listOf_rep hx hl
  have hconv : ∀ v, (Conv.bytesToString (a.eval x)).run P w = .ok v w → (∃ y z u, a.eval x = .slice y z u) → (execOp a.eval o).run P w = .ok (.value v) w := by
    intro v hv ⟨y, z, u, hy⟩
    rw [hy] at hv
    simp [execOp, ho, convert, run_und hu1, run_und hu, run_und he, hy, hv]
  cases nl with
  | true =>
    generalize a.eval x = v at hr hconv
    cases hr
    simp [omap] at hb; subst hb
    exact .pure (v := .string .empty) (hconv _ (by simp [Conv.bytesToString]) ⟨_, _, _, rfl⟩) (.pv (.str rfl)) hs
  | false =>
    have hsz : sz = 1 := by rcases hsz with h | h; exact h; cases h
    subst hsz
    obtain ⟨a0, len, cap, hv⟩ := hr.slc_addr
    rw [hv] at hr
    obtain ⟨h1, h2, hf, b, o', vals, ha0, hvr, hM⟩ := hr.to_cells
    obtain ⟨ns, hns, hfold⟩ := push_list es l .empty hb
    subst hns
    rw [flat_ints] at hvr
    have hvals : vals = ns.map (Value.int .u8) := by
      apply List.ext_getElem?
      intro i
      by_cases hi : i < ns.length
      · have hc : (ns.map (Dt.int .u8))[i]? = some (Dt.int .u8 ns[i]) := by simp [hi]
        obtain ⟨v, hv1, hv2⟩ := hvr.get hc
        rw [hv1, hv2.int_inv]; simp [hi]
      · rw [List.getElem?_eq_none (by have := hvr.1; simp at this; omega), List.getElem?_eq_none (by simp; omega)]
    subst hvals
    simp at h1
    subst h1
    have hload : (loadCells a0 ns.length).run P w = .ok (ns.map (Value.int .u8)).toArray w := by
      have := run_loadCells (P := P) w a0 ns.length (fun j => ((ns.map (Value.int .u8))[j]?).getD default) (fun j hj => by
        rw [ha0 (by simp; omega), addr_add]
        have := hM j (by simpa using hj)
        have hc := hs.mem b (o' + j) (.int .u8 ns[j]) (by rw [this]; simp [hj])
        rw [hc]; simp [hj])
      rw [this]; congr 2
      apply List.ext_getElem?
      intro i
      by_cases hi : i < ns.length
      · simp [hi]
      · simp [hi]
    exact .pure (v := .string (ns.foldl (fun r n => r.push (UInt8.ofNat n.toNat)) ByteArray.empty)) (hconv _ (by rw [hv]; exact run_bytesToString w _ _ _ ns hload) ⟨_, _, _, hv⟩) (.pv (.str (by rw [hfold]; rfl))) hs

def Sound (P : Program) (Γ : Cx) (a : Act) (o : Oper) (w : World) (s : St) (m : Mop) : Prop :=
  (∀ d s', exec P m s = .val d s' → Good P Γ a o w s' d) ∧ (∀ cs, exec P m s = .choose cs → GoodC P Γ a o w cs)

theorem exec_choose {m : Mop} {cs : List (D × St)} (h : exec P m s = .choose cs) : ∃ id, m = .next id := by
  cases m with
  | next id => exact ⟨id, rfl⟩
  | mkIter o =>
    cases o with
    | none => simp [exec] at h
    | some o => (simp only [exec] at h; repeat' split at h) <;> simp at h
  | _ => (simp only [exec] at h; repeat' split at h) <;> simp at h

theorem Sound.of_val {a : Act} {o : Oper} {m : Mop} (hn : ∀ id, m ≠ .next id) (h : ∀ d s', exec P m s = .val d s' → Good P Γ a o w s' d) : Sound P Γ a o w s m :=
  ⟨h, fun cs hc => by obtain ⟨id, hid⟩ := exec_choose hc; exact (hn id hid).elim⟩

theorem Sound.fail {a : Act} {o : Oper} : Sound P Γ a o w s .fail := .of_val (by simp) fun d s' h => by simp [exec] at h

theorem Sound.val {a : Act} {o : Oper} {d : D} (h : Good P Γ a o w s d) : Sound P Γ a o w s (.val d) :=
  .of_val (by simp) fun d' s' h' => by simp only [exec] at h'; injection h' with e1 e2; subst e1; subst e2; exact h

theorem Sound.ofOpt {a : Act} {o : Oper} {x : Option D} (h : ∀ d, x = some d → Good P Γ a o w s d) : Sound P Γ a o w s (.ofOpt x) := by
  cases x with
  | none => exact .fail
  | some d => exact .val (h d rfl)

theorem good_of {a : Act} {o : Oper} {d : D} (hs : Sat Γ w s) (h : ∃ v, (execOp a.eval o).run P w = .ok (.value v) w ∧ Rep Γ v d) : Good P Γ a o w s d := by
  obtain ⟨v, h1, h2⟩ := h
  exact .pure h1 h2 hs

theorem repO_map {a : Act} {ts : List D} (ha : RepA Γ a ts) (x : Option Operand) : RepO Γ (x.map a.eval) (x.map (ev ts)) := by
  cases x with
  | none => trivial
  | some x => exact ev_rep ha x

theorem repL_map {a : Act} {ts : List D} (ha : RepA Γ a ts) (l : Array Operand) : RepL (Rep Γ) (l.map a.eval).toList (l.toList.map (ev ts)) := by
  rw [Array.toList_map]
  exact ⟨by simp, fun i v d hv hd => by
    rw [List.getElem?_map] at hv hd
    cases hx : l.toList[i]? with
    | none => simp [hx] at hv
    | some y => simp [hx] at hv hd; subst hv; subst hd; exact ev_rep ha y⟩

theorem one_arg {c : Call} {ts : List D} {x : D} (h : c.args.toList.map (ev ts) = [x]) : ∃ y, c.args = #[y] ∧ ev ts y = x := by
  obtain ⟨⟨l⟩, l2⟩ : ∃ l : Array Operand, c.args = l := ⟨_, rfl⟩
  rw [l2] at h ⊢
  match l, h with
  | [y], h => simp at h; exact ⟨y, rfl, h⟩

theorem two_args {c : Call} {ts : List D} {x y : D} (h : c.args.toList.map (ev ts) = [x, y]) : ∃ u v, c.args = #[u, v] ∧ ev ts u = x ∧ ev ts v = y := by
  obtain ⟨⟨l⟩, l2⟩ : ∃ l : Array Operand, c.args = l := ⟨_, rfl⟩
  rw [l2] at h ⊢
  match l, h with
  | [u, v], h => simp at h; exact ⟨u, v, rfl, h.1, h.2⟩

theorem decLen_sound {a : Act} {o : Oper} {c : Call} {t : TypeId} {y : Operand} {ts : List D} (ho : o.op = .call c) (hc : c.callee = .builtin .len) (hargs : c.args = #[y]) (h0 : c.argTypes[0]? = some t)
    (hs : Sat Γ w s) (ha : RepA Γ a ts) : Sound P Γ a o w s (decLen P t (ev ts y)) := by
  have hyr := ev_rep ha y
  generalize hev : ev ts y = x at hyr
  unfold decLen
  split
  · rename_i str hu
    obtain ⟨sb, hsb, hl⟩ := hyr.pv_inv.str_inv
    have : sb.size = str.length := by rw [← hl]; exact (Array.length_toList (xs := sb.data)).symm
    refine .val (g_len ho hc hargs h0 hs ?_)
    simp [Builtin.len_, run_und hu, hsb, this]
  · rename_i hu
    refine .val (g_len ho hc hargs h0 hs ?_)
    simp [Builtin.len_, run_und hu]
  · rename_i hu
    refine .val (g_len ho hc hargs h0 hs ?_)
    generalize a.eval y = v at hyr
    cases hyr
    simp [Builtin.len_, run_und hu]
  · rename_i hu _
    split
    · rename_i sz nl es hl
      refine .val (g_len ho hc hargs h0 hs ?_)
      have hr := listOf_rep hyr hl
      generalize a.eval y = v at hr
      cases hr <;> simp [Builtin.len_, run_und hu, *]
    · exact .fail
  · rename_i hu
    exact .of_val (by simp) fun d s' h => g_mlen ho hc hargs h0 hs ha hu hev h
  · rename_i hu
    refine .val (g_len (n := 0) ho hc hargs h0 hs ?_)
    have hr := hyr.pv_inv
    generalize a.eval y = v at hr
    cases hr
    simp [Builtin.len_, run_und hu]
  · exact .fail

theorem srcD_ok {u e : TypeId} {x : Value} {y : D} {src : Src} {ys : List Dt} (hs : Sat Γ w s) (hp : 0 < P.cellsOf e) (hvr : Rep Γ x y) (hsrc : srcD P e u y = some src) (hys : src.get s = some ys) : SrcOk P Γ w u e x ys := by
  unfold srcD at hsrc
  split at hsrc
  · rename_i hut
    split at hsrc <;> simp at hsrc
    rename_i hsz
    subst hsz; subst hsrc
    exact src_mem hs hut hvr hp hys
  · rename_i hut _
    split at hsrc <;> try (simp at hsrc; done)
    rename_i hlo
    split at hsrc <;> simp at hsrc
    rename_i hsz
    subst hsrc
    simp [Src.get] at hys; subst hys
    exact src_list hs hut hvr hlo hsz
  · rename_i hut
    split at hsrc <;> simp at hsrc
    rename_i hsz
    subst hsrc
    simp [Src.get] at hys; subst hys
    exact src_str hut hvr hsz
  · simp at hsrc

theorem appMop_sound {a : Act} {o : Oper} {c : Call} {t tu e : TypeId} {u v : Operand} {ts : List D} {src : Src} (ho : o.op = .call c) (hc : c.callee = .builtin .append) (hargs : c.args = #[u, v])
    (h0 : c.argTypes[0]? = some t) (h1 : c.argTypes[1]? = some tu) (ht : P.underlying t = some (.slice e)) (hsrc : srcD P e tu (ev ts v) = some src)
    (hs : Sat Γ w s) (ha : RepA Γ a ts) : Sound P Γ a o w s (appMop P e (ev ts u) src) := by
  have hur := ev_rep ha u
  have hvr := ev_rep ha v
  generalize ev ts u = x at hur
  unfold appMop
  split
  · rename_i hpz
    simp only [Bool.and_eq_true, decide_eq_true_eq] at hpz
    obtain ⟨hp, hz⟩ := hpz
    have hsok : ∀ ys, src.get s = some ys → SrcOk P Γ w tu e (a.eval v) ys := fun ys hys => srcD_ok hs hp hvr hsrc hys
    split
    · rename_i sz nl es0
      split
      · rename_i hnl
        subst hnl
        refine .of_val (by simp) fun d s' h => ?_
        simp only [exec] at h
        split at h <;> try (simp at h; done)
        rename_i ys hys
        have hxr : RepT Γ.M (a.eval u) (.slc sz true []) := by
          have := hur.pv_inv
          generalize a.eval u = vv at this
          cases this; exact .nil
        have hal : ∃ aa, a.eval u = .slice aa ([] : List Dt).length ([] : List Dt).length := by
          generalize a.eval u = vv at hxr
          cases hxr; exact ⟨none, rfl⟩
        exact g_appNew ho hc hargs h0 h1 ht hp hz hs (.pv hxr) hal hxr (.inr rfl) (hsok ys hys) h
      · exact .fail
    · rename_i sz nl es0
      split
      · rename_i hsz
        refine .of_val (by simp) fun d s' h => ?_
        simp only [exec] at h
        split at h <;> try (simp at h; done)
        rename_i ys hys
        obtain ⟨aa, len, hav, hxr⟩ := hur.exa_inv
        have hlen : len = es0.length := by
          rw [hav] at hxr
          cases hxr <;> simp [*]
        subst hlen
        exact g_appNew ho hc hargs h0 h1 ht hp hz hs hur ⟨aa, hav⟩ hxr hsz (hsok ys hys) h
      · exact .fail
    · rename_i id sz es0
      split
      · rename_i hsz
        refine .of_val (by simp) fun d s' h => ?_
        simp only [exec] at h
        split at h <;> try (simp at h; done)
        rename_i ys hys
        split at h <;> try (simp at h; done)
        rename_i bf hb
        split at h <;> try (simp at h; done)
        rename_i hcond
        injection h with e1 e2
        subst e1; subst e2
        exact g_app (ts := ts) ho hc hargs h0 h1 ht hp hz hs hur hsz (hsok ys hys) hb hcond.1 hcond.2.1 hcond.2.2.1 hcond.2.2.2
      · exact .fail
    · exact .fail
  · exact .fail

theorem decBuiltin_sound {a : Act} {o : Oper} {c : Call} {b : Builtin} {ts : List D} (ho : o.op = .call c) (hc : c.callee = .builtin b) (hs : Sat Γ w s) (ha : RepA Γ a ts) :
    Sound P Γ a o w s (decBuiltin P c b (c.args.toList.map (ev ts))) := by
  generalize hx : c.args.toList.map (ev ts) = args
  unfold decBuiltin
  split
  · obtain ⟨y, hy, hev⟩ := one_arg hx
    split
    · rename_i h0; rw [← hev]; exact decLen_sound ho hc hy h0 hs ha
    · exact .fail
  · exact .ofOpt fun d h => g_minMax (isMax := false) ho (by simpa using hc) hs ha hx h
  · exact .ofOpt fun d h => g_minMax (isMax := true) ho (by simpa using hc) hs ha hx h
  · obtain ⟨u, v, hargs, hu, hv⟩ := two_args hx
    split
    · rename_i h0 h1
      rw [← hu, ← hv]
      unfold decApp
      split
      · rename_i ht
        split
        · exact .fail
        · rename_i hsrc
          exact appMop_sound ho hc hargs h0 h1 ht hsrc hs ha
      · exact .fail
    · exact .fail
  · obtain ⟨u, v, hargs, hu, hv⟩ := two_args hx
    split
    · rename_i h0
      unfold decDel
      split
      · rename_i hut hk
        split
        · exact .of_val (by simp) fun d s' h => g_mdel ho hc hargs h0 hs ha hut (by rw [hv]; exact hk) hu h
        · exact .fail
      · exact .fail
    · exact .fail
  · exact .fail

theorem decCall_sound {a : Act} {o : Oper} {c : Call} {ts : List D} (ho : o.op = .call c) (hs : Sat Γ w s) (ha : RepA Γ a ts) : Sound P Γ a o w s (decCall P ts c) := by
  unfold decCall
  split
  · split
    · exact .of_val (by simp) fun d s' h => by simp [exec] at h
    · exact .of_val (by simp) fun d s' h => by simp [exec] at h
    · exact .of_val (by simp) fun d s' h => by simp [exec] at h
    · exact .fail
  · exact .fail
  · rename_i b hc
    exact decBuiltin_sound ho hc hs ha

theorem dec_sound {a : Act} {o : Oper} {ts : List D} (hs : Sat Γ w s) (ha : RepA Γ a ts) : Sound P Γ a o w s (dec P o ts) := by
  unfold dec
  split
  · -- move
    rename_i x ho
    exact .val (.pure (v := a.eval x) (by simp [execOp, ho]) (ev_rep ha x) hs)
  · rename_i x ho
    exact .val (.pure (v := a.eval x) (by simp [execOp, ho]) (ev_rep ha x) hs)
  · -- pick
    rename_i c x y ho
    split
    · rename_i t ht
      have hc := ev_rep ha c
      rw [ht] at hc
      have hc := hc.pv_inv.bool_inv
      refine .val (.pure (v := if t then a.eval x else a.eval y) (by simp [execOp, ho, hc, asBool]) ?_ hs)
      cases t
      · exact ev_rep ha y
      · exact ev_rep ha x
    · exact .fail
  · -- alloc
    rename_i t ho
    split
    · rename_i z hz
      split
      · rename_i h1
        exact .of_val (by simp) fun d s' h => by simp only [exec] at h; injection h with e1 e2; subst e1; subst e2; exact g_alloc ho hs hz h1
      · exact .fail
    · exact .fail
  · -- box
    rename_i t x ho
    split
    · rename_i h1
      exact .of_val (by simp) fun d s' h => by simp only [exec] at h; injection h with e1 e2; subst e1; subst e2; exact g_box ho hs ha h1
    · exact .fail
  · rename_i t parts ho
    exact .ofOpt fun d h => g_build ho hs ha h
  · rename_i t len parts ho
    exact .ofOpt fun d h => g_buildSlice ho hs ha h
  · -- load
    rename_i t x ho
    split
    · rename_i id off hx
      split
      · rename_i hok
        exact .of_val (by simp) fun d s' h => g_load ho hs ha hx hok h
      · exact .fail
    · rename_i sz es i off hx
      split
      · rename_i e he
        exact .ofOpt fun d h => g_loadc ho hs ha hx he h
      · exact .fail
    · exact .fail
  · -- store
    rename_i t x y ho
    split
    · rename_i id off hx
      split
      · rename_i hc
        exact .of_val (by simp) fun d s' h => g_store ho hs ha hx hc.1 hc.2.1 hc.2.2 h
      · exact .fail
    · exact .fail
  · -- nilCheck
    rename_i x ho
    have hxr := ev_rep ha x
    split
    · rename_i id off hx
      rw [hx] at hxr
      refine .val (.pure (v := a.eval x) ?_ hxr hs)
      obtain ⟨b, hb, _⟩ := hxr.ptr_inv
      simp [execOp, ho, hb]
    · rename_i sz es i off hx
      rw [hx] at hxr
      refine .val (.pure (v := a.eval x) ?_ hxr hs)
      obtain ⟨b, hb⟩ : ∃ b, a.eval x = .pointer (some b) := by
        generalize a.eval x = v at hxr
        cases hxr; exact ⟨_, rfl⟩
      simp [execOp, ho, hb]
    · exact .fail
  · -- binOp
    rename_i op t x y _ ho
    refine .ofOpt fun d h => good_of hs ?_
    obtain ⟨v, hv, hr⟩ := binD_sound (P := P) (w := w) (X := x) (Y := y) h (ev_rep ha x) (ev_rep ha y)
    exact ⟨v, by simp only [execOp, ho]; simp only [Sem.run_bind] at hv ⊢; rw [hv]; rfl, hr⟩
  · rename_i op t x ho
    refine .ofOpt fun d h => good_of hs ?_
    obtain ⟨v, hv, hr⟩ := unD_sound (P := P) (w := w) h (ev_rep ha x)
    exact ⟨v, by simp [execOp, ho, hv], hr⟩
  · -- convert
    rename_i src dst x ho
    have hxr := ev_rep ha x
    split
    · rename_i d0 k k0 n h1 h2 hx
      rw [hx] at hxr
      have hv := hxr.pv_inv.int_inv
      refine .val (.pure (v := .int k (k.wrap n)) ?_ (.pv .int) hs)
      simp [execOp, ho, convert, run_und h1, run_und h2, hv, Conv.intToInt]
    · rename_i d0 l h1 h2 hx
      rw [hx] at hxr
      obtain ⟨sb, hsb, hl⟩ := hxr.pv_inv.str_inv
      refine .val (.pure (v := .string sb) ?_ (.pv (.str hl)) hs)
      simp [execOp, ho, convert, run_und h1, run_und h2, hsb]
    · rename_i d0 e l h1 h2 hx
      rw [hx] at hxr
      split
      · rename_i he
        split
        · exact .of_val (by simp) fun d s' h => by
            simp only [exec] at h; injection h with e1 e2; subst e1; subst e2; exact g_mkBuf ho h1 h2 he hs hxr
        · exact .fail
      · exact .fail
    · rename_i e y h1 h2 hx
      split
      · rename_i he hl
        split
        · rename_i l hb
          split
          · rename_i hsz
            exact .val (g_toStr ho h1 h2 he hs hxr hl hb hsz)
          · exact .fail
        · exact .fail
      · exact .fail
    · exact .fail
  · -- makeInterface
    rename_i t x ho
    split
    · exact .fail
    · exact .fail
    · rename_i dd hn hu
      refine .val (.pure (v := .iface t (a.eval x)) ?_ (.iface (ev_rep ha x)) hs)
      simp only [execOp, ho, Instr.makeInterface, Sem.run_bind, run_und hu, Result.andThen_ok]
      cases dd <;> first | exact (hn _ rfl).elim | simp
  · -- makeFunc
    rename_i fn first cap ho
    split
    · rename_i f
      refine .val (.pure (v := .func (.func f) (first.map a.eval) (cap.map a.eval)) (by simp [execOp, ho, Instr.makeFunc]) ?_ hs)
      have h1 := repL_map ha first
      have h2 := repL_map ha cap
      exact .func (by simp) (by simp) (fun i v d hv hd => h1.2 i v d (by rw [Array.getElem?_toList]; exact hv) hd) (fun i v d hv hd => h2.2 i v d (by rw [Array.getElem?_toList]; exact hv) hd)
    · exact .fail
  · -- makeMap
    rename_i t r ho
    split
    · exact .of_val (by simp) fun d s' h => by
        simp only [exec] at h; injection h with e1 e2; subst e1; subst e2; exact g_mkMap ho hs (by simp)
    · rename_i x
      split
      · rename_i hu hx
        exact .of_val (by simp) fun d s' h => by
          simp only [exec] at h; injection h with e1 e2; subst e1; subst e2
          refine g_mkMap ho hs fun y hy => ?_
          injection hy with hy; subst hy
          have hxr := ev_rep ha x
          rw [hx] at hxr
          exact ⟨⟨_, _, hu⟩, _, _, hxr.pv_inv.int_inv⟩
      · exact .fail
  · -- slice
    rename_i t x lo hi mx ho
    refine .ofOpt fun d h => good_of hs ?_
    obtain ⟨v, hv, hr⟩ := slice_sound (P := P) (w := w) h (ev_rep ha x) (repO_map ha lo) (repO_map ha hi) (repO_map ha mx)
    exact ⟨v, by simp [execOp, ho, hv], hr⟩
  · rename_i t x f ho
    refine .ofOpt fun d h => good_of hs ?_
    obtain ⟨v, hv, hr⟩ := fieldAddr_sound (P := P) (w := w) h (ev_rep ha x)
    exact ⟨v, by simp [execOp, ho, hv], hr⟩
  · rename_i t x f ho
    refine .ofOpt fun d h => good_of hs ?_
    obtain ⟨v, hv, hr⟩ := field_sound (P := P) (w := w) h (ev_rep ha x)
    exact ⟨v, by simp [execOp, ho, hv], hr⟩
  · rename_i t x i ho
    refine .ofOpt fun d h => good_of hs ?_
    obtain ⟨v, hv, hr⟩ := indexAddr_sound (P := P) (w := w) h (ev_rep ha x) (ev_rep ha i)
    exact ⟨v, by simp [execOp, ho, hv], hr⟩
  · rename_i t x i ho
    refine .ofOpt fun d h => good_of hs ?_
    obtain ⟨v, hv, hr⟩ := index_sound (P := P) (w := w) h (ev_rep ha x) (ev_rep ha i)
    exact ⟨v, by simp [execOp, ho, hv], hr⟩
  · -- lookup
    rename_i t x k ok ho
    split
    · rename_i hu hk
      split
      · rename_i z hz
        split
        · rename_i id hx
          exact .of_val (by simp) fun d s' h => g_lookup ho hs ha hu hk hz hx h
        · rename_i hx
          split
          · rename_i hko
            exact .val (g_lookup_nil ho hs ha hu hk hz hx hko)
          · exact .fail
        · exact .fail
      · exact .fail
    · exact .fail
  · rename_i t m k x ho
    split
    · rename_i hu hk hm
      exact .of_val (by simp) fun d s' h => g_mput ho hs ha hu hk hm h
    · exact .fail
  · rename_i t m k ho
    split
    · rename_i hu hk hm
      split
      · rename_i z hz
        exact .of_val (by simp) fun d s' h => g_mentry ho hs ha hu hk hm hz h
      · exact .fail
    · exact .fail
  · rename_i t m st x ho
    split
    · rename_i hm hn
      exact .of_val (by simp) fun d s' h => g_estore ho hs ha hm hn h
    · exact .fail
  · -- range
    rename_i t x ho
    have hxr := ev_rep ha x
    split
    · rename_i l hu hx
      rw [hx] at hxr
      obtain ⟨sb, hsb, hl⟩ := hxr.pv_inv.str_inv
      exact .of_val (by simp) fun d s' h => by
        simp only [exec] at h; injection h with e1 e2; subst e1; subst e2
        exact g_mkIter (it := .stringIter sb 0) ho hs ⟨sb, heap_alloc_self w _, hl⟩ (by simp [Instr.range, run_und hu, hsb])
    · rename_i hu hx
      rw [hx] at hxr
      have hv : a.eval x = .map none := by
        have := hxr.pv_inv
        generalize a.eval x = v at this
        cases this; rfl
      exact .of_val (by simp) fun d s' h => by
        simp only [exec] at h; injection h with e1 e2; subst e1; subst e2
        exact g_mkIter (it := .mapIter none 0 #[] 0) ho hs ⟨none, heap_alloc_self w _, rfl⟩ (by simp [Instr.range, run_und hu, hv])
    · rename_i id hu hx
      exact .of_val (by simp) fun d s' h => by
        simp only [exec] at h
        split at h <;> try (simp at h; done)
        rename_i es clock hob
        injection h with e1 e2; subst e1; subst e2
        obtain ⟨b, arr, hxv, hb, hg, hsz, hRE⟩ := map_of hs ha hx hob
        exact g_mkIter (it := .mapIter (some b) clock #[] clock) ho hs ⟨some b, heap_alloc_self w _, b, get_append_of hb _, rfl⟩ (by simp [Instr.range, run_und hu, hxv, MapKept.run_getObj_map (P := P) hg])
    · exact .fail
  · -- next
    rename_i it isString ho
    split
    · exact .fail
    rename_i hstr
    have hstr : isString = false := by simpa using hstr
    subst hstr
    split
    · rename_i id hx
      constructor
      · intro d s' h
        simp only [exec] at h
        split at h <;> try (simp at h; done)
        · rename_i hob
          injection h with e1 e2; subst e1; subst e2
          exact g_next_nil ho hs ha hx hob
        · rename_i hob
          split at h <;> try (simp at h; done)
          rename_i hmo
          split at h <;> try (simp at h; done)
          rename_i hc
          split at h <;> try (simp at h; done)
          rename_i hemp
          injection h with e1 e2; subst e1; subst e2
          exact (g_next ho hs ha hx hob hmo hc).1 (by simpa using hemp)
      · intro cs h
        simp only [exec] at h
        split at h <;> try (simp at h; done)
        rename_i hob
        split at h <;> try (simp at h; done)
        rename_i hmo
        split at h <;> try (simp at h; done)
        rename_i hc
        split at h <;> try (simp at h; done)
        rename_i hemp
        injection h with e1; subst e1
        exact (g_next ho hs ha hx hob hmo hc).2 (by simpa using hemp)
    · exact .fail
  · rename_i it ho
    split
    · rename_i id hx
      exact .of_val (by simp) fun d s' h => g_entry ho hs ha hx h
    · exact .fail
  · rename_i x i ho
    refine .ofOpt fun d h => good_of hs ?_
    obtain ⟨v, hv, hr⟩ := extract_sound (P := P) (w := w) h (ev_rep ha x)
    exact ⟨v, by simp [execOp, ho, hv], hr⟩
  · rename_i c ho
    exact decCall_sound ho hs ha
  · exact .fail

end
end Go.DI

