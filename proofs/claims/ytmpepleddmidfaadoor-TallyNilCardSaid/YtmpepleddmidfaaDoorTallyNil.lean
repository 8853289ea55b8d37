/-
  A nil tally counts nothing: the law TallyNil returns true for every list of events and every number, with the listed package-level variables as the card ties them.
-/
import Derived.Test.YtmpepleddmidfaaDoorCards
import Derived.Test.YtmpepleddmidfaaDoorTie
import Derived.WalkKit
import Derived.ProofKit
import Derived.OpenShut
import Derived.Deep.DeepHandedRow
import Derived.Lib.LaidTab
import Derived.Test.YtmpepleddmidfaaDoorDIE
set_option linter.unusedVariables false
namespace Go.DI
open Go.Proofs
noncomputable def T0 : Par := ⟨Tryd.prog, fun f => Nat.testBit 4585038000015255994766246806885234701432469668044952918232517773520017351277032081078353207490841719865343 f, fun _ => false, fun _ => false⟩
end Go.DI

namespace Go.DI
open Go Go.Proofs
set_option maxRecDepth 100000
def cut14 : List Dt → List Dt
  | [a, b, c, d, e, f, g, .slc s1 pn ps, .slc s2 cn cs, .str tx, .str tg] => [a, b, c, d, e, f, g, .slc s1 pn (ps.take 40), .slc s2 cn (cs.take 40), .str (tx.take 80), .str (tg.take 80)]
  | l => l
def cutE : Dt → Dt
  | .agg (k :: s :: v :: e :: m) => .agg (k :: s :: v :: e :: cut14 m)
  | x => x
def rowM : List Lf := [.int .i64, .int .i64, .int .i64, .int .i64, .int .i64, .int .i64, .int .i64, .slc true [.int .i64, .int .i64], .slc false [.int .i64], .str, .str]
def rowE : List Lf := .int .i64 :: .int .u32 :: .int .i64 :: .int .i64 :: rowM
theorem take_min {α : Type} (l : List α) (k : Nat) : (l.drop (Int.toNat 0)).take (min (l.length : Int) k - 0).toNat = l.take k := by
  have : (min (l.length : Int) k - 0).toNat = min k l.length := by omega
  rw [this]; simp [List.take_eq_take_iff]
theorem f14_ok {xs : List Dt} (h : FitR rowM xs) : IsoOk T0 14 [.agg xs] (· = .agg (cut14 xs)) := by
  obtain ⟨k, _, rfl, _, _, h⟩ := h.int_cons
  obtain ⟨n0, _, rfl, _, _, h⟩ := h.int_cons
  obtain ⟨n1, _, rfl, _, _, h⟩ := h.int_cons
  obtain ⟨n2, _, rfl, _, _, h⟩ := h.int_cons
  obtain ⟨n3, _, rfl, _, _, h⟩ := h.int_cons
  obtain ⟨n4, _, rfl, _, _, h⟩ := h.int_cons
  obtain ⟨n5, _, rfl, _, _, h⟩ := h.int_cons
  obtain ⟨pn, ps, _, rfl, _, h⟩ := h.slc_cons
  obtain ⟨cn, cs, _, rfl, _, h⟩ := h.slc_cons
  obtain ⟨tx, _, rfl, _, h⟩ := h.str_cons
  obtain ⟨tg, _, rfl, _, h⟩ := h.str_cons
  cases h.cases_nil
  refine iso_v .none 500 Tryd.func14 rfl (Nat.le_of_ble_eq_true rfl) fun det => ?_
  refine ks (((↑0 : Int) ≤ 0 ∧ 0 ≤ min (↑ps.length : Int) 40 ∧ min (↑ps.length : Int) 40 ≤ (↑ps.length : Int)) ∧
        ((↑0 : Int) ≤ 0 ∧ 0 ≤ min (↑cs.length : Int) 40 ∧ min (↑cs.length : Int) 40 ≤ (↑cs.length : Int)) ∧
          ((↑0 : Int) ≤ 0 ∧ 0 ≤ min (↑tx.length : Int) 80 ∧ min (↑tx.length : Int) 80 ≤ (↑tx.length : Int)) ∧
            ((↑0 : Int) ≤ 0 ∧ 0 ≤ min (↑tg.length : Int) 80 ∧ min (↑tg.length : Int) 80 ≤ (↑tg.length : Int)) ∧
              Dt.agg
                  [Dt.int IntKind.i64 k, Dt.int IntKind.i64 n0, Dt.int IntKind.i64 n1, Dt.int IntKind.i64 n2, Dt.int IntKind.i64 n3, Dt.int IntKind.i64 n4, Dt.int IntKind.i64 n5,
                    Dt.slc 2 pn (List.take (min (↑ps.length : Int) 40 - 0).toNat (List.drop 0 ps)), Dt.slc 1 cn (List.take (min (↑cs.length : Int) 40 - 0).toNat (List.drop 0 cs)),
                    Dt.str (List.take (min (↑tx.length : Int) 80 - 0).toNat (List.drop 0 tx)), Dt.str (List.take (min (↑tg.length : Int) 80 - 0).toNat (List.drop 0 tg))] =
                Dt.agg
                  [Dt.int IntKind.i64 k, Dt.int IntKind.i64 n0, Dt.int IntKind.i64 n1, Dt.int IntKind.i64 n2, Dt.int IntKind.i64 n3, Dt.int IntKind.i64 n4, Dt.int IntKind.i64 n5, Dt.slc 2 pn (List.take 40 ps),
                    Dt.slc 1 cn (List.take 40 cs), Dt.str (List.take 80 tx), Dt.str (List.take 80 tg)]) (by kernel_rfl) ?_
  refine ⟨by omega, by omega, by omega, by omega, ?_⟩
  have e (l : List Dt) := take_min l 40
  have e' (l : List UInt8) := take_min l 80
  exact congrArg Dt.agg (by simp only [← e, ← e']; rfl)
def spA : Sp := { Sp.all with unr := fun _ _ => false, sym := fun f => if Nat.beq f 24 then 2 else 0, iso := fun f xs => match f, xs with
  | 14, [.agg l] => some (.agg (cut14 l))
  | 90, [x] => some (cutE x)
  | 24, [.slc _ _ es] => some (if es.isEmpty then .slc 0 true [] else .slc 15 false ((es.take 40).map cutE))
  | 28, [] => some (.bool true)
  | _, _ => none }
theorem f90_ok {xs : List Dt} (h : FitR rowE xs) : IsoOk T0 90 [.agg xs] (· = cutE (.agg xs)) := by
  obtain ⟨k, _, rfl, _, _, h⟩ := h.int_cons
  obtain ⟨s, _, rfl, _, _, h⟩ := h.int_cons
  obtain ⟨v, _, rfl, _, _, h⟩ := h.int_cons
  obtain ⟨e, _, rfl, _, _, h⟩ := h.int_cons
  have h14 := f14_ok h
  obtain ⟨kk, _, rfl, _, _, h⟩ := h.int_cons
  obtain ⟨n0, _, rfl, _, _, h⟩ := h.int_cons
  obtain ⟨n1, _, rfl, _, _, h⟩ := h.int_cons
  obtain ⟨n2, _, rfl, _, _, h⟩ := h.int_cons
  obtain ⟨n3, _, rfl, _, _, h⟩ := h.int_cons
  obtain ⟨n4, _, rfl, _, _, h⟩ := h.int_cons
  obtain ⟨n5, _, rfl, _, _, h⟩ := h.int_cons
  obtain ⟨pn, ps, _, rfl, _, h⟩ := h.slc_cons
  obtain ⟨cn, cs, _, rfl, _, h⟩ := h.slc_cons
  obtain ⟨tx, _, rfl, _, h⟩ := h.str_cons
  obtain ⟨tg, _, rfl, _, h⟩ := h.str_cons
  cases h.cases_nil
  refine iso_v spA 500 Tryd.func90 rfl (Nat.le_of_ble_eq_true rfl) fun det => ?_
  refine ks ((IsoOk T0 14
          [Dt.agg
              [Dt.int IntKind.i64 kk, Dt.int IntKind.i64 n0, Dt.int IntKind.i64 n1, Dt.int IntKind.i64 n2, Dt.int IntKind.i64 n3, Dt.int IntKind.i64 n4, Dt.int IntKind.i64 n5, Dt.slc 2 pn ps, Dt.slc 1 cn cs, Dt.str tx,
                Dt.str tg]]
          fun (x : Dt) =>
          x =
            Dt.agg
              [Dt.int IntKind.i64 kk, Dt.int IntKind.i64 n0, Dt.int IntKind.i64 n1, Dt.int IntKind.i64 n2, Dt.int IntKind.i64 n3, Dt.int IntKind.i64 n4, Dt.int IntKind.i64 n5, Dt.slc 2 pn (List.take 40 ps),
                Dt.slc 1 cn (List.take 40 cs), Dt.str (List.take 80 tx), Dt.str (List.take 80 tg)]) ∧
        Dt.agg
            [Dt.int IntKind.i64 k, Dt.int IntKind.u32 s, Dt.int IntKind.i64 v, Dt.int IntKind.i64 e, Dt.int IntKind.i64 kk, Dt.int IntKind.i64 n0, Dt.int IntKind.i64 n1, Dt.int IntKind.i64 n2, Dt.int IntKind.i64 n3,
              Dt.int IntKind.i64 n4, Dt.int IntKind.i64 n5, Dt.slc 2 pn (List.take 40 ps), Dt.slc 1 cn (List.take 40 cs), Dt.str (List.take 80 tx), Dt.str (List.take 80 tg)] =
          Dt.agg
            [Dt.int IntKind.i64 k, Dt.int IntKind.u32 s, Dt.int IntKind.i64 v, Dt.int IntKind.i64 e, Dt.int IntKind.i64 kk, Dt.int IntKind.i64 n0, Dt.int IntKind.i64 n1, Dt.int IntKind.i64 n2, Dt.int IntKind.i64 n3,
              Dt.int IntKind.i64 n4, Dt.int IntKind.i64 n5, Dt.slc 2 pn (List.take 40 ps), Dt.slc 1 cn (List.take 40 cs), Dt.str (List.take 80 tx), Dt.str (List.take 80 tg)]) (by kernel_rfl) ?_
  exact ⟨h14, rfl⟩
theorem cutE_fits {xs : List Dt} (h : FitR rowE xs) : fits 15 (cutE (.agg xs)) = true := by
  obtain ⟨k, _, rfl, _, _, h⟩ := h.int_cons
  obtain ⟨s, _, rfl, _, _, h⟩ := h.int_cons
  obtain ⟨v, _, rfl, _, _, h⟩ := h.int_cons
  obtain ⟨e, _, rfl, _, _, h⟩ := h.int_cons
  obtain ⟨kk, _, rfl, _, _, h⟩ := h.int_cons
  obtain ⟨n0, _, rfl, _, _, h⟩ := h.int_cons
  obtain ⟨n1, _, rfl, _, _, h⟩ := h.int_cons
  obtain ⟨n2, _, rfl, _, _, h⟩ := h.int_cons
  obtain ⟨n3, _, rfl, _, _, h⟩ := h.int_cons
  obtain ⟨n4, _, rfl, _, _, h⟩ := h.int_cons
  obtain ⟨n5, _, rfl, _, _, h⟩ := h.int_cons
  obtain ⟨pn, ps, _, rfl, _, h⟩ := h.slc_cons
  obtain ⟨cn, cs, _, rfl, _, h⟩ := h.slc_cons
  obtain ⟨tx, _, rfl, _, h⟩ := h.str_cons
  obtain ⟨tg, _, rfl, _, h⟩ := h.str_cons
  cases h.cases_nil
  rfl
theorem wrap_nat (n : Nat) (h : n < 1000000) : IntKind.i64.wrap ((n : Int) + 1) = ((n + 1 : Nat) : Int) := by
  simp only [IntKind.wrap, IntKind.bits, IntKind.signed]
  simp
  omega
theorem f24_l (det nl : Bool) (es : List Dt) (h : Lfit (.slc true rowE) (.slc 15 nl es)) : ∀ (k i : Nat), i + k = min es.length 40 → 1 ≤ i →
    LoopEq T0 ⟨det, 0, 0⟩ 24 (loopIn T0.P 24 3) [(4, .pv (.int .i64 i)), (3, .own 0 15 ((es.take i).map cutE)), (0, .pv (.slc 15 nl es))] ⟨[], [⟨15, 31, i⟩]⟩
      (.exit 0) [(3, .own 0 15 ((es.take 40).map cutE))] ⟨[], [⟨15, 31, min es.length 40⟩]⟩ := by
  intro k
  induction k with
  | zero =>
    intro i hi h1
    refine LoopEq.next spA [] 24 500 [] .nil ?_
    refine ks (vIf (decide ((↑i : Int) < (↑es.length : Int)))
          (vIf (decide ((↑i : Int) < (↑es.length : Int)))
            (vIf (bif decide ((↑i : Int) < (↑es.length : Int)) then decide ((↑i : Int) < 40) else false)
              ((0 ≤ (↑i : Int) ∧ (↑i : Int) < (↑es.length : Int)) ∧
                (∃ (x : Dt), es[(↑i : Int).toNat]? = some x ∧ x = Dt.agg x.cells ∧ x.cells.length = 15) ∧
                  ∀ (x : Dt),
                    es[(↑i : Int).toNat]? = some x →
                      (IsoOk T0 90 [x] fun (x_1 : Dt) => x_1 = cutE x) ∧
                        [cutE x].all (fits 15) = true ∧
                          (i = (List.map cutE (List.take i es)).length ∧
                              ((List.map cutE (List.take i es)).length + [cutE x].length) * 168 ≤ 35184372088832 ∧ (List.map cutE (List.take i es)).length + [cutE x].length ≤ 35184372088832) ∧
                            True ∧
                              St.mk [] [Buf.mk 15 31 ((List.map cutE (List.take i es)).length + [cutE x].length)] = St.mk [] [] ∧
                                LoopEq T0 (Md.mk det 0 0) 24 (loopIn T0.P 24 3) [] (St.mk [] []) (Xt.exit 0) [(3, D.own 0 15 (List.map cutE (List.take 40 es)))] (St.mk [] [Buf.mk 15 31 (min es.length 40)]))
              (Xt.exit 0 = Xt.exit 0 ∧ (some (D.own 0 15 (List.map cutE (List.take i es))) = some (D.own 0 15 (List.map cutE (List.take 40 es))) ∧ True) ∧ St.mk [] [Buf.mk 15 31 i] = St.mk [] [Buf.mk 15 31 (min es.length 40)]))
            (vIf (decide ((↑i : Int) < (↑es.length : Int))) False
              (Xt.exit 0 = Xt.exit 0 ∧ (some (D.own 0 15 (List.map cutE (List.take i es))) = some (D.own 0 15 (List.map cutE (List.take 40 es))) ∧ True) ∧ St.mk [] [Buf.mk 15 31 i] = St.mk [] [Buf.mk 15 31 (min es.length 40)])))
          (vIf (decide ((↑i : Int) < (↑es.length : Int))) False
            (vIf (decide ((↑i : Int) < (↑es.length : Int))) False
              (Xt.exit 0 = Xt.exit 0 ∧ (some (D.own 0 15 (List.map cutE (List.take i es))) = some (D.own 0 15 (List.map cutE (List.take 40 es))) ∧ True) ∧ St.mk [] [Buf.mk 15 31 i] = St.mk [] [Buf.mk 15 31 (min es.length 40)])))) (by kernel_rfl) ?_
    by_cases hlt : i < es.length
    · have e1 : decide ((i : Int) < es.length) = true := by simp; omega
      have e2 : decide ((i : Int) < 40) = false := by simp; omega
      simp only [e1, e2, vIf_true, vIf_false, cond_true]
      refine ⟨trivial, ⟨?_, trivial⟩, ?_⟩
      · have : i = 40 := by omega
        rw [this]
      · have : min es.length 40 = i := by omega
        rw [this]
    · have e1 : decide ((i : Int) < es.length) = false := by simp; omega
      simp only [e1, vIf_false]
      refine ⟨trivial, ⟨?_, trivial⟩, ?_⟩
      · rw [List.take_of_length_le (by omega), List.take_of_length_le (by omega)]
      · have : min es.length 40 = i := by omega
        rw [this]
  | succ k ih =>
    intro i hi h1
    have e1 : decide ((i : Int) < es.length) = true := by simp; omega
    have e2 : decide ((i : Int) < 40) = true := by simp; omega
    refine LoopEq.next spA [] 24 500 [(4, .pv (.int .i64 (i + 1 : Nat))), (3, .own 0 15 ((es.take (i + 1)).map cutE)), (0, .pv (.slc 15 nl es))] ⟨[], [⟨15, 31, i + 1⟩]⟩ ?_
    refine ks (vIf (decide ((↑i : Int) < (↑es.length : Int)))
          (vIf (decide ((↑i : Int) < (↑es.length : Int)))
            (vIf (bif decide ((↑i : Int) < (↑es.length : Int)) then decide ((↑i : Int) < 40) else false)
              ((0 ≤ (↑i : Int) ∧ (↑i : Int) < (↑es.length : Int)) ∧
                (∃ (x : Dt), es[(↑i : Int).toNat]? = some x ∧ x = Dt.agg x.cells ∧ x.cells.length = 15) ∧
                  ∀ (x : Dt),
                    es[(↑i : Int).toNat]? = some x →
                      (IsoOk T0 90 [x] fun (x_1 : Dt) => x_1 = cutE x) ∧
                        [cutE x].all (fits 15) = true ∧
                          (i = (List.map cutE (List.take i es)).length ∧
                              ((List.map cutE (List.take i es)).length + [cutE x].length) * 168 ≤ 35184372088832 ∧ (List.map cutE (List.take i es)).length + [cutE x].length ≤ 35184372088832) ∧
                            (some (D.pv (Dt.int IntKind.i64 (IntKind.i64.wrap ((↑i : Int) + 1)))) = some (D.pv (Dt.int IntKind.i64 (↑(i + 1) : Int))) ∧
                                some (D.own 0 15 (List.map cutE (List.take i es) ++ [cutE x])) = some (D.own 0 15 (List.map cutE (List.take (i + 1) es))) ∧ some (D.pv (Dt.slc 15 nl es)) = some (D.pv (Dt.slc 15 nl es)) ∧ True) ∧
                              St.mk [] [Buf.mk 15 31 ((List.map cutE (List.take i es)).length + [cutE x].length)] = St.mk [] [Buf.mk 15 31 (i + 1)] ∧
                                LoopEq T0 (Md.mk det 0 0) 24 (loopIn T0.P 24 3) [(4, D.pv (Dt.int IntKind.i64 (↑(i + 1) : Int))), (3, D.own 0 15 (List.map cutE (List.take (i + 1) es))), (0, D.pv (Dt.slc 15 nl es))]
                                  (St.mk [] [Buf.mk 15 31 (i + 1)]) (Xt.exit 0) [(3, D.own 0 15 (List.map cutE (List.take 40 es)))] (St.mk [] [Buf.mk 15 31 (min es.length 40)]))
              (Xt.exit 0 = Xt.exit 0 ∧ (some (D.own 0 15 (List.map cutE (List.take i es))) = some (D.own 0 15 (List.map cutE (List.take 40 es))) ∧ True) ∧ St.mk [] [Buf.mk 15 31 i] = St.mk [] [Buf.mk 15 31 (min es.length 40)]))
            (vIf (decide ((↑i : Int) < (↑es.length : Int))) False
              (Xt.exit 0 = Xt.exit 0 ∧ (some (D.own 0 15 (List.map cutE (List.take i es))) = some (D.own 0 15 (List.map cutE (List.take 40 es))) ∧ True) ∧ St.mk [] [Buf.mk 15 31 i] = St.mk [] [Buf.mk 15 31 (min es.length 40)])))
          (vIf (decide ((↑i : Int) < (↑es.length : Int))) False
            (vIf (decide ((↑i : Int) < (↑es.length : Int))) False
              (Xt.exit 0 = Xt.exit 0 ∧ (some (D.own 0 15 (List.map cutE (List.take i es))) = some (D.own 0 15 (List.map cutE (List.take 40 es))) ∧ True) ∧ St.mk [] [Buf.mk 15 31 i] = St.mk [] [Buf.mk 15 31 (min es.length 40)])))) (by kernel_rfl) ?_
    simp only [e1, e2, vIf_true, cond_true]
    obtain ⟨xs, hx, hf⟩ := h.get (i := i) (by omega)
    have hl : ((es.take i).map cutE).length = i := by simp; omega
    refine ⟨by omega, ⟨.agg xs, by simpa using hx, rfl, hf.1⟩, fun x hx' => ?_⟩
    have : x = .agg xs := by simpa [hx] using hx'.symm
    subst this
    have e3 : (es.take i).map cutE ++ [cutE (.agg xs)] = (es.take (i + 1)).map cutE := by
      rw [List.take_add_one, hx]; simp
    refine ⟨f90_ok hf, by simp [cutE_fits hf], ⟨hl.symm, ?_, ?_⟩, ⟨?_, ?_, trivial, trivial⟩, ?_, ih (i + 1) (by omega) (by omega)⟩
    · rw [hl]; simp; omega
    · rw [hl]; simp; omega
    · rw [wrap_nat i (by omega)]
    · rw [e3]
    · rw [hl]; rfl
theorem f24_ok {nl : Bool} {es : List Dt} (h : Lfit (.slc true rowE) (.slc 15 nl es)) :
    IsoOk T0 24 [.slc 15 nl es] (· = if es.isEmpty then .slc 0 true [] else .slc 15 false ((es.take 40).map cutE)) := by
  by_cases h0 : es = []
  · subst h0
    refine iso_v { spA with unr := fun _ _ => true } 500 Tryd.func24 rfl (Nat.le_of_ble_eq_true rfl) fun det => ?_
    refine ks (Dt.slc 0 true [] = Dt.slc 0 true []) (by kernel_rfl) ?_
    rfl
  · have hpos : 0 < es.length := List.length_pos_iff.2 h0
    rw [if_neg (by simpa using h0)]
    refine iso_v { spA with loop := fun f id _ _ => match f, id with
      | 24, 3 => some (.exit 0, [(3, .own 0 15 ((es.take 40).map cutE))], ⟨[], [⟨15, 31, min es.length 40⟩]⟩)
      | _, _ => none } 500 Tryd.func24 rfl (Nat.le_of_ble_eq_true rfl) fun det => ?_
    refine ks (LoopEq T0 (Md.mk det 0 0) 24 (loopIn T0.P 24 3) [(4, D.pv (Dt.int IntKind.i64 0)), (3, D.pv (Dt.slc 0 true [])), (2, D.pv (Dt.slc 0 true [])), (0, D.pv (Dt.slc 15 nl es))] (St.mk [] []) (Xt.exit 0)
            [(3, D.own 0 15 (List.map cutE (List.take 40 es)))] (St.mk [] [Buf.mk 15 31 (min es.length 40)]) ∧
          Dt.slc 15 false (List.map cutE (List.take 40 es)) = Dt.slc 15 false (List.map cutE (List.take 40 es))) (by kernel_rfl) ?_
    refine ⟨?_, rfl⟩
    refine LoopEq.next spA [] 24 500 [(4, .pv (.int .i64 (1 : Nat))), (3, .own 0 15 ((es.take 1).map cutE)), (0, .pv (.slc 15 nl es))] ⟨[], [⟨15, 31, 1⟩]⟩ ?_
    refine ks (vIf (decide (0 < (↑es.length : Int)))
          (vIf (decide (0 < (↑es.length : Int)))
            (vIf (bif decide (0 < (↑es.length : Int)) then decide (0 < 40) else false)
              (((↑0 : Int) ≤ 0 ∧ 0 < (↑es.length : Int)) ∧
                (∃ (x : Dt), es[0]? = some x ∧ x = Dt.agg x.cells ∧ x.cells.length = 15) ∧
                  ∀ (x : Dt),
                    es[0]? = some x →
                      (IsoOk T0 90 [x] fun (x_1 : Dt) => x_1 = cutE x) ∧
                        [cutE x].all (fits 15) = true ∧
                          (168 ≤ 35184372088832 ∧ 1 ≤ 35184372088832) ∧
                            (some (D.pv (Dt.int IntKind.i64 1)) = some (D.pv (Dt.int IntKind.i64 1)) ∧
                                some (D.own 0 15 [cutE x]) = some (D.own 0 15 (List.map cutE (List.take 1 es))) ∧ some (D.pv (Dt.slc 15 nl es)) = some (D.pv (Dt.slc 15 nl es)) ∧ True) ∧
                              St.mk [] [Buf.mk 15 31 1] = St.mk [] [Buf.mk 15 31 1] ∧
                                LoopEq T0 (Md.mk det 0 0) 24 (loopIn T0.P 24 3) [(4, D.pv (Dt.int IntKind.i64 1)), (3, D.own 0 15 (List.map cutE (List.take 1 es))), (0, D.pv (Dt.slc 15 nl es))] (St.mk [] [Buf.mk 15 31 1])
                                  (Xt.exit 0) [(3, D.own 0 15 (List.map cutE (List.take 40 es)))] (St.mk [] [Buf.mk 15 31 (min es.length 40)]))
              (Xt.exit 0 = Xt.exit 0 ∧ (some (D.pv (Dt.slc 0 true [])) = some (D.own 0 15 (List.map cutE (List.take 40 es))) ∧ True) ∧ St.mk [] [] = St.mk [] [Buf.mk 15 31 (min es.length 40)]))
            (vIf (decide (0 < (↑es.length : Int))) False
              (Xt.exit 0 = Xt.exit 0 ∧ (some (D.pv (Dt.slc 0 true [])) = some (D.own 0 15 (List.map cutE (List.take 40 es))) ∧ True) ∧ St.mk [] [] = St.mk [] [Buf.mk 15 31 (min es.length 40)])))
          (vIf (decide (0 < (↑es.length : Int))) False
            (vIf (decide (0 < (↑es.length : Int))) False
              (Xt.exit 0 = Xt.exit 0 ∧ (some (D.pv (Dt.slc 0 true [])) = some (D.own 0 15 (List.map cutE (List.take 40 es))) ∧ True) ∧ St.mk [] [] = St.mk [] [Buf.mk 15 31 (min es.length 40)])))) (by kernel_rfl) ?_
    have e1 : decide ((0 : Int) < es.length) = true := by simp; omega
    simp only [e1, vIf_true, cond_true]
    obtain ⟨xs, hx, hf⟩ := h.get (i := 0) (by omega)
    refine ⟨by omega, ⟨.agg xs, by simpa using hx, rfl, hf.1⟩, fun x hx' => ?_⟩
    have : x = .agg xs := by simpa [hx] using hx'.symm
    subst this
    have e3 : [cutE (.agg xs)] = (es.take 1).map cutE := by
      have := List.take_add_one (l := es) (i := 0)
      rw [hx] at this; simpa using congrArg (List.map cutE) this.symm
    refine ⟨f90_ok hf, by simp [cutE_fits hf], ⟨by simp, by simp⟩, ⟨trivial, by rw [e3], trivial, trivial⟩, by trivial, ?_⟩
    exact f24_l det nl es h (min es.length 40 - 1) 1 (by omega) (by omega)

theorem known25 : IsoOk T0 28 [] (· = .bool true) := by
  refine run_iso 300 fun det => ?_
  refine ks ((if det = true then 1 = 1 else True) ∧ [D.pv (Dt.bool true)] = [D.pv (Dt.bool true)]) (by kernel_rfl) ?_
  simp

theorem tallyNil {nl : Bool} {es : List Dt} (h : Lfit (.slc true rowE) (.slc 15 nl es)) (k : Int) : IsoOk T0 4 [.slc 15 nl es, .int .i64 k] (· = .bool true) := by
  refine iso_v spA 500 Tryd.func4 rfl (Nat.le_of_ble_eq_true rfl) fun det => ?_
  refine ks ((IsoOk T0 24 [Dt.slc 15 nl es] fun (x : Dt) => x = if es.isEmpty = true then Dt.slc 0 true [] else Dt.slc 15 false (List.map cutE (List.take 40 es))) ∧
        ∀ (ts : List D),
          EnvOk 67
              [(19, D.func 91 [] [D.ptr 3 0]), (18, D.pv (Dt.bool false)), (17, D.func 91 [] [D.ptr 3 0]), (7, D.func 91 [] [D.ptr 3 0]), (16, D.func 91 [] [D.ptr 3 0]), (15, D.pv Dt.nilptr), (6, D.ptr 2 0), (14, D.tup []),
                (13, D.ptr 1 0), (12, D.pv Dt.nilptr), (11, D.tup []), (10, D.pv (if es.isEmpty = true then Dt.slc 0 true [] else Dt.slc 15 false (List.map cutE (List.take 40 es)))), (9, D.pv (Dt.slc 15 nl es)),
                (8, D.pv Dt.nilptr), (5, D.pv Dt.nilptr), (4, D.pv (Dt.bool false)), (0, D.pv (Dt.slc 15 nl es)), (1, D.pv (Dt.int IntKind.i64 k))]
              ts →
            (IsoOk T0 28 [] fun (x : Dt) => x = Dt.bool true) ∧
              ∀ (ts : List D), EnvOk 14 [(7, D.func 91 [] [D.ptr 6 0]), (6, D.pv Dt.nilptr), (3, D.ptr 5 0), (2, D.pv (Dt.int IntKind.i64 0)), (0, D.pv Dt.nilptr)] ts → Dt.bool true = Dt.bool true) (by kernel_rfl) ?_
  exact ⟨f24_ok h, fun _ _ => ⟨known25, fun _ _ => rfl⟩⟩

theorem tallyNil_law : ∀ xs, FitAs T0.P 8 Tryd.f4.params.toList xs → IsoOk T0 4 xs (· = .bool true) := by
  intro xs h
  match xs, h with
  | [x0, x1], h =>
    obtain ⟨⟨r0, h0, g0⟩, ⟨r1, h1, g1⟩, _⟩ := h
    have e0 : rowOf T0.P 8 47 = some [.slc true rowE] := by kernel_rfl
    have e1 : rowOf T0.P 8 3 = some [.int .i64] := by kernel_rfl
    have a0 : isAggT T0.P 47 = false := by kernel_rfl
    have a1 : isAggT T0.P 3 = false := by kernel_rfl
    rw [h0] at e0; cases e0
    rw [h1] at e1; cases e1
    rw [if_neg (by simp [a0])] at g0
    rw [if_neg (by simp [a1])] at g1
    obtain ⟨f, hf, g0⟩ := g0; cases hf
    obtain ⟨f, hf, g1⟩ := g1; cases hf
    cases g1 with
    | int hk =>
      generalize hr : rowE = rE at g0
      cases g0 with
      | nil => subst hr; exact tallyNil .nil _
      | slc a b c => subst hr; exact tallyNil (.slc a b c) _
  | [], h => exact h.elim
  | [_], h => exact h.2.elim
  | _ :: _ :: _ :: _, h => exact h.2.2.elim
end Go.DI

namespace Go.Proofs.YtmpepleddmidfaaDoor.tallyNil
open Go Go.DI

theorem own : ownKnob Tryd.prog.godebug = none := by kernel_rfl
theorem noGor : NoGor T0.P := by
  intro f fn hf
  have h : (Tryd.prog.funcs.all fun fn => !(fn.name == "runtime.NumGoroutine")) = true := by kernel_rfl
  have := (Array.all_eq_true_iff_forall_mem.1 h) fn (Array.mem_of_getElem? hf)
  simpa using this

theorem and_t {a b : Bool} (h : a = true) (k : b = true) : (a && b) = true := by rw [h, k]; rfl
theorem laidOut : laidOutB T0.P = true := by kernel_rfl
theorem mapsRow : mapsRowed T0.P = true := by kernel_rfl
theorem slcFine : slicesFine T0.P = true := by kernel_rfl
set_option maxHeartbeats 8000000 in
theorem closed : joinedFacts Tryd.pinned.checked.prog 4 Tryd.f4 (OpenSpec.ofChange Rows.tallyNilSpec).bare Rows.tallyNilRow = true := by
  unfold joinedFacts
  repeat' with_reducible refine and_t ?_ ?_
  all_goals as_aux_lemma => kernel_rfl

set_option maxRecDepth 100000 in
theorem contract (H : Type) (enc : TypeId × Value → H) (W : World) (base : Nat) (args : Array Value) (ds gs : List (DataW H)) (before : List MemPlace)
    (hval : ∀ (j : Nat) t v, Tryd.f4.params[j]? = some t → args[j]? = some v → Value.okWide Tryd.prog W .any base t v)
    (hW : DataW.Whole enc Tryd.prog Tryd.f4.params.toList Rows.tallyNilSpec.vars false W args.toList ds gs before) :
    Calls Tryd.prog 4 args W fun e W' => ∃ v, e = .returned v ∧ Rows.tallyNilSpec.post enc Tryd.prog Tryd.f4 false true false false W args v W' :=
  law_calls (T := T0) (f := 4) (fn := Tryd.f4) (tb := 4) 8 noGor hval hW rfl
    (fun ds h => by
      have h : ds.length = 2 := h
      match ds, h with
      | [a0, a1], _ => rfl)
    rfl Tryd.underlying4 laidOut mapsRow slcFine (by kernel_rfl) (by kernel_rfl) tallyNil_law

def litCells (d : DataW Unit) : Array Value :=
  match d with
  | .agg parts => (parts.map fun
    | .lit (.int k n) => Value.int k n
    | _ => .bool false).toArray
  | _ => #[]

noncomputable def laidWorld (os : Os) : World :=
  { World.holding Tryd.prog os ⟨#[], #[], []⟩ with heap := ((((World.holding Tryd.prog os ⟨#[], #[], []⟩).heap.modify 6 fun
      | .cells _ t frozen => .cells (litCells Rows.laid_math_bits_deBruijn32tab) t frozen
      | o => o).modify 7 fun
      | .cells _ t frozen => .cells (litCells Rows.laid_math_bits_deBruijn64tab) t frozen
      | o => o).modify 3 fun
      | .cells _ t frozen => .cells (litCells Rows.laid_internal_strconv_uint64pow10) t frozen
      | o => o) }
theorem laid_met (os : Os) : laidMet Tryd.prog Rows.tallyNilRow.laid ((laidWorld os).forCall (fun _ _ => 0) ⟨#[], #[.slice none 0 0, .int .i64 0], []⟩).memory :=
  laidMet_of_run' 8 (by kernel_rfl) (by kernel_rfl)
theorem reads (os : Os) {H : Type} (enc : TypeId × Value → H) : ∃ places, DataW.whole enc Tryd.prog ((laidWorld os).forCall (fun _ _ => 0) ⟨#[], #[.slice none 0 0, .int .i64 0], []⟩).memory Tryd.f4.params.toList Rows.tallyNilSpec.vars false (#[.slice none 0 0, .int .i64 0] : Array Value).toList 8 = some ([.nil, .lit (.int .i64 0)], [], places) :=
  ⟨[], by kernel_rfl⟩

set_option maxRecDepth 100000 in
theorem lifted (os : Os) (started : os.Started) (H : Type) (enc : TypeId × Value → H) (F : Stop.Interp) :
    ReturnsInHanded {} Tryd.checked os 4 .any ((OpenSpec.ofChange Rows.tallyNilSpec).preRow enc Tryd.prog Tryd.f4 Rows.tallyNilRow.domain false Rows.tallyNilRow.laid) (((OpenSpec.ofChange Rows.tallyNilSpec).at F).post enc Tryd.prog Tryd.f4 false true false false) := by
  obtain ⟨places, hx⟩ := reads os enc
  refine returnsInHanded_of_row (C := Tryd.checked) (s := OpenSpec.ofChange Rows.tallyNilSpec) own started (by kernel_rfl) Tryd.func4
    (witness_row_at (enc := enc) (C := Tryd.checked) false (laidWorld os) #[.slice none 0 0, .int .i64 0] rfl (by kernel_rfl) (by kernel_rfl) (by kernel_rfl)
      (OpenSpec.preRow_of_cond 8 hx (by kernel_rfl) (fun k hk => by cases hk) (by kernel_rfl) (laid_met os))) ?_
  intro W base args ds gs before hval hW _ _ _ hL _ _
  exact contract H enc W base args ds gs before hval hW

theorem said : Rows.TallyNilSaid :=
  OpenClaim.holds_of_cond 4 Tryd.f4 rfl rfl rfl rfl rfl rfl rfl ⟨rfl, rfl, rfl, rfl, rfl⟩ rfl rfl rfl rfl rfl (by kernel_rfl) Tryd.func4 closed
    (of_decide_eq_true (by kernel_rfl)) (by unfold Func.isWrapper; first | (rw [if_pos (by decide +kernel)]; kernel_rfl) | (rw [if_neg (by decide +kernel)]; exact ⟨rfl, rfl⟩))
    (fun os started H enc _ F => by rw [OpenClaim.pre_eq_preRow]; exact lifted os started H enc F)

theorem plain (f : FuncId) (fn : Func) (hf : Tryd.pinned.checked.prog.funcNamed "cuneiform/cuneiformlaw25.TallyNil" = some f) (hfn : Tryd.pinned.checked.prog.funcs[f]? = some fn) :
    true = Tryd.pinned.checked.prog.looks [] ∧ ∀ (j : Nat) t, fn.params[j]? = some t → Tryd.pinned.checked.prog.wantsStandIn t = false := by
  obtain rfl : f = 4 := Option.some.inj ((show Tryd.prog.funcNamed "cuneiform/cuneiformlaw25.TallyNil" = some 4 by kernel_rfl).symm.trans hf) |>.symm
  obtain rfl : fn = Tryd.f4 := (Option.some.inj (Tryd.func4.symm.trans hfn)).symm
  refine ⟨by kernel_rfl, fun j t ht => ?_⟩
  have h : (Tryd.f4.params.all fun t => !Tryd.prog.wantsStandIn t) = true := by kernel_rfl
  have h2 := (Array.all_eq_true_iff_forall_mem.1 h) t (Array.mem_of_getElem? ht)
  cases h3 : Tryd.prog.wantsStandIn t with
  | false => exact h3
  | true => rw [h3] at h2; cases h2

theorem card : Rows.TallyNilCardSaid :=
  Claim7.holds_tied_plain_at .later [] _ _ _ _ said (fun _ h => by cases h) (by kernel_rfl) (fun _ h => by cases h) tallyNil_row_tie rfl ⟨rfl, rfl⟩ (by kernel_rfl) rfl plain (by kernel_rfl)
end Go.Proofs.YtmpepleddmidfaaDoor.tallyNil
