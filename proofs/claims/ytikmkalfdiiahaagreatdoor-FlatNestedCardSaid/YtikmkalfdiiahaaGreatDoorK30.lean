/-
  Parts of this claim's texts, one behind the other: VE VH VI VJ. No condition.
-/
import Derived.Test.YtikmkalfdiiahaaGreatDoorK26
import Derived.Test.YtikmkalfdiiahaaGreatDoorK24
set_option linter.unusedVariables false
set_option linter.unusedSimpArgs false
/-
  theodolitelaw17.FlatNested: the plain law. No condition.
-/
namespace Go.Proofs.YtikmkalfdiiahaaGreatDoor
open Go.RowKit Go.Sort Go.Lib

theorem call_f {T : TermD} {a : Int} (hS : T.S = T7 10) (hs : (nodeAt T a).sort = 1) : callD T sf [a] = (1, true) := by
  have e1 : (((T7 10).funs.find? fun f => f.name.data.toList == sf.data.toList).isSome ∧ (((T7 10).funs.find? fun f => f.name.data.toList == sf.data.toList).getD noFun).args = [1] ∧ (((T7 10).funs.find? fun f => f.name.data.toList == sf.data.toList).getD noFun).res = 1) := by decide +kernel
  rw [callD_data, hS, e1.2.1, e1.2.2, if_pos ⟨e1.1, rfl⟩]
  unfold sameSorts sameSorts
  rw [hs]
  rfl
theorem mk_f {T : TermD} {a : Int} (hS : T.S = T7 10) (hs : (nodeAt T a).sort = 1) (ha : hasT T a = true) : makeD T 12 sf noRat [a] = putD T ⟨12, sf, noRat, [a], 1⟩ :=
  make_put rfl (by decide +kernel) (by simp [ha]) (call_f hS hs)
def fnR (T : TermD) (a : Int) : (Int × Int) × TermD := putD T ⟨12, sf, noRat, [a], 1⟩
def fnN : Nat → Int × TermD
  | 0 => (0, A1)
  | k + 1 => ((fnR (fnN k).2 (fnN k).1).1.1, (fnR (fnN k).2 (fnN k).1).2)
def fnQ (n : Nat) : (Int × Int) × TermD := mk2 (fnN n).2 17 (fnN n).1 0
def fnP (n : Nat) : (Int × Int) × TermD := mk2 (fnQ n).2 18 0 (fnN n).1
def fnT (n : Nat) (tw : Bool) : TermD := if tw then (fnP n).2 else (fnQ n).2
def fnI (n : Nat) (tw : Bool) : List Int := if tw then [(fnQ n).1.1, (fnP n).1.1] else [(fnQ n).1.1]
def fnA (n : Nat) (tw : Bool) : (List Int × List MadeD × List Int × Int) × TermD := allFlat (fnT n tw) (fnI n tw)
def noMade : MadeD := ⟨0, ⟨#[]⟩, []⟩
def lastM (made : List MadeD) : Nat → Int
  | 0 => 0
  | i + 1 => (made.getD i noMade).var
def stepM (made : List MadeD) (i : Nat) : Bool := decide ((made.getD i noMade).fn = sf) && decide ((made.getD i noMade).args = [lastM made i])
def lawM (n : Nat) (tw : Bool) : Bool :=
  decide ((fnQ n).1.2 = 0) && decide ((fnP n).1.2 = 0) && decide ((fnA n tw).1.2.2.2 = 0) && decide ((fnA n tw).1.1.length = (fnI n tw).length) && decide ((fnA n tw).1.2.1.length = n) && decide ((fnA n tw).1.2.2.1.length = 0) &&
  (List.range n).all (fun i => stepM (fnA n tw).1.2.1 i) &&
  inB (fnA n tw).2 (nth (fnA n tw).1.1 0) && decide ((nodeAt (fnA n tw).2 (nth (fnA n tw).1.1 0)).op = 17) && decide ((nodeAt (fnA n tw).2 (nth (fnA n tw).1.1 0)).args = [lastM (fnA n tw).1.2.1 n, 0])
def okN (k : Nat) : Bool := decide ((fnR (fnN k).2 (fnN k).1).1.2 = 0) && decide ((nodeAt (fnN k).2 (fnN k).1).sort = 1) && hasT (fnN k).2 (fnN k).1
theorem fn_ok : ∀ k : Fin 30, okN k.val = true := by decide +kernel
theorem fn_S : ∀ k, (fnN k).2.S = T7 10
  | 0 => rfl
  | k + 1 => by
    show (putD _ _).2.S = _
    have : ∀ (T : TermD) (n : NodeD), (putD T n).2.S = T.S := fun T n => by
      unfold putD
      split
      · rfl
      · split <;> rfl
    rw [this, fn_S k]
theorem fn_e {k : Nat} (hk : k < 30) : makeD (fnN k).2 12 sf noRat [(fnN k).1] = (((fnN (k + 1)).1, 0), (fnN (k + 1)).2) := by
  have h := fn_ok ⟨k, hk⟩
  unfold okN at h
  simp only [Bool.and_eq_true, decide_eq_true_eq] at h
  rw [mk_f (fn_S k) h.1.2 h.2]
  exact Prod.ext (Prod.ext rfl h.1.1) rfl
theorem g_A1 : TermG A1 := by have := (g_A0.make 12 (nm := sx) (val := noRat) [] (by decide) (by decide) (by decide)).g; rw [mk_x] at this; exact this
theorem fn_g : ∀ {k}, k ≤ 30 → TermG (fnN k).2 ∧ okI (fnN k).1
  | 0, _ => ⟨g_A1, okI_n (by decide)⟩
  | k + 1, hk => by
    have h := fn_g (k := k) (by omega)
    have e := fn_e (k := k) (by omega)
    have hg := (h.1.make 12 (nm := sf) (val := noRat) [(fnN k).1] (by decide) (by decide) (by decide)).g
    have hb := make_bdU h.1.ok.sm 12 sf noRat [(fnN k).1]
    rw [e] at hg hb
    exact ⟨hg, by unfold okI; dsimp only at hb; omega⟩
theorem fn_fresh : ∀ k, (fnN k).2.fresh = 0
  | 0 => rfl
  | k + 1 => by show (putD _ _).2.fresh = _; rw [fresh_put, fn_fresh k]
theorem lawM_0 : lawM 0 false = true ∧ lawM 0 true = true := by decide +kernel
theorem lawM_1 : lawM 1 false = true ∧ lawM 1 true = true := by decide +kernel
theorem lawM_2 : lawM 2 false = true ∧ lawM 2 true = true := by decide +kernel
theorem lawM_3 : lawM 3 false = true ∧ lawM 3 true = true := by decide +kernel
end Go.Proofs.YtikmkalfdiiahaaGreatDoor

/-
  theodolitelaw17.FlatNested: the plain law, case by case (4 to 18). No condition.
-/
namespace Go.Proofs.YtikmkalfdiiahaaGreatDoor
open Go.RowKit Go.Sort Go.Lib

theorem lawM_4 : lawM 4 false = true ∧ lawM 4 true = true := by decide +kernel
theorem lawM_5 : lawM 5 false = true ∧ lawM 5 true = true := by decide +kernel
theorem lawM_6 : lawM 6 false = true ∧ lawM 6 true = true := by decide +kernel
theorem lawM_7 : lawM 7 false = true ∧ lawM 7 true = true := by decide +kernel
theorem lawM_8 : lawM 8 false = true ∧ lawM 8 true = true := by decide +kernel
theorem lawM_9 : lawM 9 false = true ∧ lawM 9 true = true := by decide +kernel
theorem lawM_10 : lawM 10 false = true ∧ lawM 10 true = true := by decide +kernel
theorem lawM_11 : lawM 11 false = true ∧ lawM 11 true = true := by decide +kernel
theorem lawM_12 : lawM 12 false = true ∧ lawM 12 true = true := by decide +kernel
theorem lawM_13 : lawM 13 false = true ∧ lawM 13 true = true := by decide +kernel
theorem lawM_14 : lawM 14 false = true ∧ lawM 14 true = true := by decide +kernel
theorem lawM_15 : lawM 15 false = true ∧ lawM 15 true = true := by decide +kernel
theorem lawM_16 : lawM 16 false = true ∧ lawM 16 true = true := by decide +kernel
theorem lawM_17 : lawM 17 false = true ∧ lawM 17 true = true := by decide +kernel
theorem lawM_18 : lawM 18 false = true ∧ lawM 18 true = true := by decide +kernel
end Go.Proofs.YtikmkalfdiiahaaGreatDoor

/-
  theodolitelaw17.FlatNested: the plain law, case by case (19 to 25). No condition.
-/
namespace Go.Proofs.YtikmkalfdiiahaaGreatDoor
open Go.RowKit Go.Sort Go.Lib

theorem lawM_19 : lawM 19 false = true ∧ lawM 19 true = true := by decide +kernel
theorem lawM_20 : lawM 20 false = true ∧ lawM 20 true = true := by decide +kernel
theorem lawM_21 : lawM 21 false = true ∧ lawM 21 true = true := by decide +kernel
theorem lawM_22 : lawM 22 false = true ∧ lawM 22 true = true := by decide +kernel
theorem lawM_23 : lawM 23 false = true ∧ lawM 23 true = true := by decide +kernel
theorem lawM_24 : lawM 24 false = true ∧ lawM 24 true = true := by decide +kernel
theorem lawM_25 : lawM 25 false = true ∧ lawM 25 true = true := by decide +kernel
end Go.Proofs.YtikmkalfdiiahaaGreatDoor

/-
  theodolitelaw17.FlatNested: the plain law, case by case (26 to 30). No condition.
-/
namespace Go.Proofs.YtikmkalfdiiahaaGreatDoor
open Go.RowKit Go.Sort Go.Lib

theorem lawM_26 : lawM 26 false = true ∧ lawM 26 true = true := by decide +kernel
theorem lawM_27 : lawM 27 false = true ∧ lawM 27 true = true := by decide +kernel
theorem lawM_28 : lawM 28 false = true ∧ lawM 28 true = true := by decide +kernel
theorem lawM_29 : lawM 29 false = true ∧ lawM 29 true = true := by decide +kernel
theorem lawM_30 : lawM 30 false = true ∧ lawM 30 true = true := by decide +kernel
theorem law_flat : ∀ {n : Nat}, n ≤ 30 → ∀ tw : Bool, lawM n tw = true := fun {n} hn tw => by
  have h : lawM n false = true ∧ lawM n true = true := by
    match n, hn with
    | 0, _ => exact lawM_0
    | 1, _ => exact lawM_1
    | 2, _ => exact lawM_2
    | 3, _ => exact lawM_3
    | 4, _ => exact lawM_4
    | 5, _ => exact lawM_5
    | 6, _ => exact lawM_6
    | 7, _ => exact lawM_7
    | 8, _ => exact lawM_8
    | 9, _ => exact lawM_9
    | 10, _ => exact lawM_10
    | 11, _ => exact lawM_11
    | 12, _ => exact lawM_12
    | 13, _ => exact lawM_13
    | 14, _ => exact lawM_14
    | 15, _ => exact lawM_15
    | 16, _ => exact lawM_16
    | 17, _ => exact lawM_17
    | 18, _ => exact lawM_18
    | 19, _ => exact lawM_19
    | 20, _ => exact lawM_20
    | 21, _ => exact lawM_21
    | 22, _ => exact lawM_22
    | 23, _ => exact lawM_23
    | 24, _ => exact lawM_24
    | 25, _ => exact lawM_25
    | 26, _ => exact lawM_26
    | 27, _ => exact lawM_27
    | 28, _ => exact lawM_28
    | 29, _ => exact lawM_29
    | 30, _ => exact lawM_30
    | n + 31, h => omega
  cases tw
  · exact h.1
  · exact h.2
end Go.Proofs.YtikmkalfdiiahaaGreatDoor
