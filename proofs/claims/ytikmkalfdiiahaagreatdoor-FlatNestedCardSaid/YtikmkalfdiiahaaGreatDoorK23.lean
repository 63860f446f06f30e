/-
  Parts of this claim's texts, one behind the other: UM UO UQ UR. No condition.
-/
import Derived.Test.YtikmkalfdiiahaaGreatDoorK12
import Derived.Test.YtikmkalfdiiahaaGreatDoorK21
set_option linter.unusedVariables false
set_option linter.unusedSimpArgs false
/-
  theodolitelaw16: declared, tables. Condition: the library's tables as its text lays them.
-/
namespace Go.Proofs.YtikmkalfdiiahaaGreatDoor
open Go.RowKit Go.Sort Go.Lib

set_option maxRecDepth 100000 in
set_option maxHeartbeats 2000000 in
theorem declared16_any (w : World) : Calls Tryz.prog 30 #[] w fun e w' => DeclPost w e w' := by
  go_enter Tryz.func30, Tryz.ntmps30
  go_wp2
  go_ret
  have i1 := RdI.lit [1] 3 w (by simp)
  generalize h1 : w.alloc (.cells #[.int .i64 1] 3) = w1 at *
  have i1' : RdI w1 (some ⟨w.heap.size, 0, none⟩) 1 [1] := by rw [← h1]; exact i1
  have s1 : w1.heap.size = w.heap.size + 1 := by rw [← h1]; simp
  have b1 : Below w.heap.size w w1 := by rw [← h1]; exact (Below.refl _ _).alloc (Nat.le_refl _) _
  have i2 := RdI.lit [2, 1] 3 w1 (by simp)
  generalize h2 : w1.alloc (.cells #[.int .i64 2, .int .i64 1] 3) = w2 at *
  have i2' : RdI w2 (some ⟨w.heap.size + 1, 0, none⟩) 2 [2, 1] := by rw [← h2, ← s1]; exact i2
  have s2 : w2.heap.size = w.heap.size + 1 + 1 := by rw [← h2]; simp [s1]
  have b2 : Below w1.heap.size w1 w2 := by rw [← h2]; exact (Below.refl _ _).alloc (Nat.le_refl _) _
  have i3 := RdI.lit [2] 3 w2 (by simp)
  generalize h3 : w2.alloc (.cells #[.int .i64 2] 3) = w3 at *
  have i3' : RdI w3 (some ⟨w.heap.size + 2, 0, none⟩) 1 [2] := by rw [← h3, show w.heap.size + 2 = w2.heap.size by omega]; exact i3
  have s3 : w3.heap.size = w.heap.size + 1 + 1 + 1 := by rw [← h3]; simp [s2]
  have b3 : Below w2.heap.size w2 w3 := by rw [← h3]; exact (Below.refl _ _).alloc (Nat.le_refl _) _
  have b4 : Below w3.heap.size w3 (w3.alloc (.cells (declC w.heap.size).flatten.toArray 75)) := (Below.refl _ _).alloc (Nat.le_refl _) _
  have hg := heap_alloc_new w3 (.cells (declC w.heap.size).flatten.toArray 75)
  rw [s3] at hg
  have b34 := b3.trans (b4.mono b3.size)
  have b24 := b2.trans (b34.mono b2.size)
  have hS : ∀ (k o : Nat) (n : Nat) (x : Addr), 0 < n → some (⟨w.heap.size + k, o, none⟩ : Addr) = some x → w.heap.size ≤ x.block := fun k o n x _ e => by injection e with e; rw [← e]; exact Nat.le_add_right _ _
  refine ⟨rfl, SlR.ofCss (css := declC w.heap.size) hg (by show w.heap.size ≤ _; omega) rfl (decl_rd (SlR.ofI (i1'.below b24 (Nat.le_refl _)) (fun x h e => hS 0 0 1 x h e)) (SlR.ofI (i2'.below b34 (Nat.le_refl _)) (fun x h e => hS 1 0 2 x h e)) (SlR.ofI (i3'.below b4 (Nat.le_refl _)) (fun x h e => hS 2 0 1 x h e))), ?_, ?_⟩
  · exact b1.trans (b24.mono b1.size)
  · show (w3.heap.push _).size = _
    rw [Array.size_push, s3]
set_option maxRecDepth 100000 in
set_option maxHeartbeats 8000000 in
theorem tables16_any (w : World) (hE : Env w) : Calls Tryz.prog 9 #[] w fun e w' => TabsPost w e w' := by
  have hE' := Lib.hid hE
  have pos0 := hE.pos
  have htn := Lib.hid (tnew_any w)
  clear hE
  go_enter Tryz.func9, Tryz.ntmps9
  go_wp2_with fail
  refine htn.out.mono ?_; rintro e w1 ⟨p, rfl, t1, b1⟩
  have I0 := Lib.hid (show Duo w p w1.heap.size ⟨[], [], []⟩ (w1.alloc (.cells #[.slice none 0 0, .slice none 0 0, .slice none 0 0] 68)) from by
    have hB1 : Below w1.heap.size w1 (w1.alloc (.cells #[.slice none 0 0, .slice none 0 0, .slice none 0 0] 68)) := (Below.refl _ _).alloc (Nat.le_refl _) _
    have hbq := heap_alloc_new w1 (.cells #[.slice none 0 0, .slice none 0 0, .slice none 0 0] 68)
    refine ⟨t1.all hB1, ⟨b1.size, fun _ h => h.elim, _, _, _, hbq, OwnR.nil _ _ _ _ _, OwnR.nil _ _ _ _ _, OwnR.nil _ _ _ _ _⟩, fun j hj => ?_, b1.trans (hB1.mono b1.size), hE'.out.all (b1.trans (hB1.mono b1.size))⟩
    have hjq : j = w1.heap.size := by
      rcases (own3 hbq).1 hj with h | h | h | h
      · exact h
      · simp [Value.ownBlock] at h
      · simp [Value.ownBlock] at h
      · simp [Value.ownBlock] at h
    subst hjq
    refine ⟨by simp, fun e => ?_⟩
    have := (t1.ownB ((ownOf.same (hB1.block p t1.plt)).1 e)).2
    omega)
  clear t1 b1 htn
  go_wp2_with fail
  generalize (w1.alloc (.cells #[.slice none 0 0, .slice none 0 0, .slice none 0 0] 68)) = w2 at *
  generalize w1.heap.size = q at *
  have hsp := Lib.hid (sort_any w.heap.size p ⟨[], [], []⟩ sU w2 I0.out.t I0.out.e (by decide))
  refine hsp.out.mono ?_; rintro e w3 h3
  obtain ⟨rfl, t3, s3⟩ := h3.yes bad7
  obtain ⟨r3, ap3, b3, e3⟩ := I0.out.step pos0 s3
  have J3 := Lib.hid (And.intro t3 (And.intro ap3 (And.intro b3 e3)))
  have R3 := Lib.hid r3
  have hrs := Lib.hid (rsort_any w.heap.size q ⟨[], [], []⟩ sU w3 r3 (by decide))
  clear h3 t3 s3 r3 ap3 b3 e3 hsp
  go_wp2_with fail
  refine hrs.out.mono ?_; rintro e w4 h4
  have h4y : e = .returned (.tuple #[.int .i64 2, .int .i64 0]) ∧ RefX (fun _ => False) w.heap.size q (T7 0) w4 ∧ PStep q w3 w4 := by
    unfold RSortPost at h4
    rw [if_neg (by rw [bad7]; decide)] at h4
    exact ⟨h4.1.1, h4.1.2, h4.2⟩
  obtain ⟨rfl, r4, s4⟩ := h4y
  have I4 := Lib.hid (Duo.step2 (T' := T7 0) pos0 J3.out.1 R3.out J3.out.2.1 J3.out.2.2.1 J3.out.2.2.2 r4 s4)
  have hdc := Lib.hid (declared16_any w4)
  clear h4 r4 s4 J3 R3 hrs
  go_wp2_with fail
  refine hdc.out.mono ?_; rintro e w5 ⟨rfl, hl5, b5, z5⟩
  have I5 := Lib.hid (I4.out.all b5)
  have F5 := Lib.hid (show FreeS (fun k => w4.heap.size ≤ k ∧ k < w5.heap.size) p q w5 from fun k hk => ⟨hk.2, fun e => by
    have := (I4.out.t.ownB ((ownOf.same (b5.block p I4.out.t.plt)).1 e)).2
    omega, fun e => by
    have := (I4.out.r.ownB ((ownOf.same (b5.block q I4.out.r.plt)).1 e)).2
    omega⟩)
  have L5 := Lib.hid (show SlR repF (fun k => w4.heap.size ≤ k ∧ k < w5.heap.size) w5 (some ⟨w4.heap.size + 3, 0, none⟩) 10 declL from hl5.mono fun b hb hk => ⟨hk, hb⟩)
  clear hl5 b5 z5 hdc I0 I4
  go_wp2
  generalize w4.heap.size + 3 = g at *
  generalize hSS : (fun k => w4.heap.size ≤ k ∧ k < w5.heap.size) = SS at *
  clear hSS
  go_loopw [5] (fun i wr => ∃ k : Nat, k ≤ 10 ∧ i = .int .i64 k ∧ Hid (Duo w p q (T7 k) wr) ∧ Hid (FreeS SS p q wr) ∧ Hid (SlR repF SS wr (some ⟨g, 0, none⟩) 10 declL)) (fun i _ => 10 - (intOf i).toNat)
  case atStart => exact ⟨0, by omega, rfl, I5.out, F5.out, L5.out⟩
  case round =>
    obtain ⟨k, hk, rfl, hI, hF, hL⟩ := hrel
    by_cases hlt : k < 10
    · have hf : declL[k]? = some (declL[k]'(by show k < 10; omega)) := List.getElem?_eq_getElem _
      generalize (declL[k]'(by show k < 10; omega)) = f at *
      obtain ⟨b, o, a', c', hgo, k0, k1, k2, ra, or, nc, _⟩ := hL.out.funAt hf
      cases hgo
      simp only [Nat.zero_add] at k0 k1 k2
      have hfa : f.args.length ≤ 2 := by
        have : f ∈ declL := List.mem_of_getElem? hf
        simp [declL] at this
        rcases this with rfl | rfl | rfl | rfl | rfl | rfl | rfl | rfl | rfl | rfl <;> decide
      obtain ⟨he, hadd⟩ := add7 hlt f hf
      have hki : (k : Int) < 10 := by omega
      have hfn := Lib.hid (fun_any w.heap.size p (T7 k) f a' c' wr hI.out.t (small7 k) hI.out.e ra.toI (by omega))
      have hadd' := Lib.hid hadd
      have he' := Lib.hid he
      have hf' := Lib.hid hf
      clear hf he hadd or
      go_wp2_with fail
      refine hfn.out.mono ?_; rintro e w6 ⟨rfl, t6, s6⟩
      rw [hadd'.out] at t6
      obtain ⟨r6, ap6, b6, e6⟩ := hI.out.step pos0 s6
      have hq6 := (s6.block q (hI.out.ap q (.inl rfl)).1 (hI.out.ap q (.inl rfl)).2).1
      obtain ⟨F6, K6⟩ := hF.out.stepP s6 hq6
      have L6 := hL.out.keep (fun b _ hb => K6 b hb) s6.size
      obtain ⟨b', o', a6, c6, hgo, q0, q1, q2, ra6, _, nc6, _⟩ := L6.funAt hf'.out
      cases hgo
      simp only [Nat.zero_add] at q0 q1 q2
      have J6 := Lib.hid (And.intro t6 (And.intro ap6 (And.intro b6 e6)))
      have R6 := Lib.hid r6
      have F6' := Lib.hid F6
      have L6' := Lib.hid L6
      have hrf := Lib.hid (rfun_any w.heap.size q (T7 k) f a6 c6 w6 r6 (small7 k) ra6.toI (by omega) nc6)
      clear t6 s6 r6 ap6 b6 e6 hq6 F6 K6 L6 hfn k0 k1 k2 ra
      go_wp2_with fail
      refine hrf.out.mono ?_; rintro e w7 ⟨rfl, r7, s7⟩
      rw [hadd'.out] at r7
      have I7 := Lib.hid (Duo.step2 (T' := T7 (k + 1)) pos0 J6.out.1 R6.out J6.out.2.1 J6.out.2.2.1 J6.out.2.2.2 r7 s7)
      have hap := J6.out.2.1.symm fun j hj => (J6.out.1.ownB hj).2
      have hp7 := (s7.block p (hap p (.inl rfl)).1 (hap p (.inl rfl)).2).1
      obtain ⟨F7, K7⟩ := F6'.out.stepQ s7 hp7
      have F7' := Lib.hid F7
      have L7 := Lib.hid (L6'.out.keep (fun b _ hb => K7 b hb) s7.size)
      clear r7 s7 hap hp7 F7 K7
      go_wp2
      go_roundw
      case rel => exact ⟨k + 1, by omega, by go_num, I7.out, F7'.out, L7.out⟩
      case measure => simp [intOf]; omega
    · have hk10 : k = 10 := by omega
      subst hk10
      have hnw := Lib.hid (new_any w.heap.size p (T7 10) wr hI.out.t)
      go_wp2_with fail
      refine hnw.out.mono ?_; rintro e w8 ⟨rfl, hT8, b8⟩
      have T8 := Lib.hid hT8
      have B8 := Lib.hid (hI.out.b.trans (b8.mono hI.out.b.size))
      have hsz := hI.out.b.size
      clear hT8 b8
      go_wp2
      go_ret2
      have hBA : Below w8.heap.size w8 (w8.alloc (.cells #[.pointer (some ⟨q, 0, none⟩), .slice none 0 0, .int .i64 0] 80)) := (Below.refl _ _).alloc (Nat.le_refl _) _
      exact ⟨_, _, rfl, (T8.out.lower hsz).all hBA, B8.out.trans (hBA.mono B8.out.size)⟩
end Go.Proofs.YtikmkalfdiiahaaGreatDoor

/-
  theodolitelaw16.LiftNested: the plain law. No condition.
-/
namespace Go.Proofs.YtikmkalfdiiahaaGreatDoor
open Go.RowKit Go.Sort Go.Lib

def nP : NodeD := ⟨12, sp, noRat, [], 0⟩
def nY : NodeD := ⟨12, sy, noRat, [], 1⟩
def P1 : TermD := addN A0 nP
def P2 : TermD := addN P1 nX
def P3 : TermD := addN P2 nY
theorem sort_p : sortedD A0 12 sp [] = (0, true) := by
  show callD A0 sp [] = _
  rw [callD_data]
  decide +kernel
theorem sort_x1 : sortedD P1 12 sx [] = (1, true) := by
  show callD P1 sx [] = _
  rw [callD_data]
  decide +kernel
theorem sort_y2 : sortedD P2 12 sy [] = (1, true) := by
  show callD P2 sy [] = _
  rw [callD_data]
  decide +kernel
theorem mk_p : makeD A0 12 sp noRat [] = ((0, 0), P1) := (make_put (by decide +kernel) (by decide +kernel) rfl sort_p).trans (put_addN rfl (by decide))
theorem mk_x1 : makeD P1 12 sx noRat [] = ((1, 0), P2) := (make_put (by decide +kernel) (by decide +kernel) rfl sort_x1).trans (put_addN (by decide +kernel) (by decide +kernel))
theorem mk_y2 : makeD P2 12 sy noRat [] = ((2, 0), P3) := (make_put (by decide +kernel) (by decide +kernel) rfl sort_y2).trans (put_addN (by decide +kernel) (by decide +kernel))
def nestR (T : TermD) (id : Int) : (Int × Int) × TermD := makeD T 10 ⟨#[]⟩ noRat [0, id, 2]
def nestN : Nat → Int × TermD
  | 0 => (1, P3)
  | k + 1 => ((nestR (nestN k).2 (nestN k).1).1.1, (nestR (nestN k).2 (nestN k).1).2)
def nestQ (n : Nat) : (Int × Int) × TermD := mk2 (nestN n).2 18 (nestN n).1 2
def idsQ (q : Int) (tw : Bool) : List Int := if tw then [q, q] else [q]
def nestA (n : Nat) (tw : Bool) : (List Int × List Int × Int) × TermD := allLift (nestQ n).2 (idsQ (nestQ n).1.1 tw)
def uN (T : TermD) (more : List Int) (i : Nat) : NodeD := nodeAt T (nth more (2 * i))
def vN (T : TermD) (more : List Int) (i : Nat) : NodeD := nodeAt T (nth (uN T more i).args 1)
def lastN (T : TermD) (more : List Int) : Nat → Int
  | 0 => 1
  | i + 1 => nth (vN T more i).args 0
def inB (T : TermD) (i : Int) : Bool := decide (0 ≤ i) && decide (i < (T.nodes.length : Int))
def stepB (T : TermD) (more : List Int) (i : Nat) : Bool :=
  inB T (nth more (2 * i)) && decide ((uN T more i).op = 6) && decide ((uN T more i).args.length = 2) && decide (nth (uN T more i).args 0 = 0) &&
  inB T (nth (uN T more i).args 1) && decide ((vN T more i).op = 8) && decide ((vN T more i).args.length = 2) && decide (nth (vN T more i).args 1 = lastN T more i)
def lawB (n : Nat) (tw : Bool) : Bool :=
  decide ((nestQ n).1.2 = 0) && decide ((nestA n tw).1.2.2 = 0) && decide ((nestA n tw).1.1.length = (idsQ (nestQ n).1.1 tw).length) && decide ((nestA n tw).1.2.1.length = 2 * n) &&
  decide (n = 0 → nth (nestA n tw).1.1 0 = (nestQ n).1.1) && (List.range n).all (fun i => stepB (nestA n tw).2 (nestA n tw).1.2.1 i) &&
  inB (nestA n tw).2 (nth (nestA n tw).1.1 ((nestA n tw).1.1.length - 1)) && decide ((nodeAt (nestA n tw).2 (nth (nestA n tw).1.1 ((nestA n tw).1.1.length - 1))).op = 18) &&
  decide ((nodeAt (nestA n tw).2 (nth (nestA n tw).1.1 ((nestA n tw).1.1.length - 1))).args = [lastN (nestA n tw).2 (nestA n tw).1.2.1 n, 2])
theorem nest_ok : ∀ k : Fin 20, (nestR (nestN k.val).2 (nestN k.val).1).1.2 = 0 := by decide +kernel
end Go.Proofs.YtikmkalfdiiahaaGreatDoor

/-
  theodolitelaw16.LiftNested: the plain law, case by case (0 to 15). No condition.
-/
namespace Go.Proofs.YtikmkalfdiiahaaGreatDoor
open Go.RowKit Go.Sort Go.Lib

theorem lawN_0 : lawB 0 false = true ∧ lawB 0 true = true := by decide +kernel
theorem lawN_1 : lawB 1 false = true ∧ lawB 1 true = true := by decide +kernel
theorem lawN_2 : lawB 2 false = true ∧ lawB 2 true = true := by decide +kernel
theorem lawN_3 : lawB 3 false = true ∧ lawB 3 true = true := by decide +kernel
theorem lawN_4 : lawB 4 false = true ∧ lawB 4 true = true := by decide +kernel
theorem lawN_5 : lawB 5 false = true ∧ lawB 5 true = true := by decide +kernel
theorem lawN_6 : lawB 6 false = true ∧ lawB 6 true = true := by decide +kernel
theorem lawN_7 : lawB 7 false = true ∧ lawB 7 true = true := by decide +kernel
theorem lawN_8 : lawB 8 false = true ∧ lawB 8 true = true := by decide +kernel
theorem lawN_9 : lawB 9 false = true ∧ lawB 9 true = true := by decide +kernel
theorem lawN_10 : lawB 10 false = true ∧ lawB 10 true = true := by decide +kernel
theorem lawN_11 : lawB 11 false = true ∧ lawB 11 true = true := by decide +kernel
theorem lawN_12 : lawB 12 false = true ∧ lawB 12 true = true := by decide +kernel
theorem lawN_13 : lawB 13 false = true ∧ lawB 13 true = true := by decide +kernel
theorem lawN_14 : lawB 14 false = true ∧ lawB 14 true = true := by decide +kernel
theorem lawN_15 : lawB 15 false = true ∧ lawB 15 true = true := by decide +kernel
end Go.Proofs.YtikmkalfdiiahaaGreatDoor

/-
  theodolitelaw16.LiftNested: the plain law, case by case (16 to 20). No condition.
-/
namespace Go.Proofs.YtikmkalfdiiahaaGreatDoor
open Go.RowKit Go.Sort Go.Lib

theorem lawN_16 : lawB 16 false = true ∧ lawB 16 true = true := by decide +kernel
theorem lawN_17 : lawB 17 false = true ∧ lawB 17 true = true := by decide +kernel
theorem lawN_18 : lawB 18 false = true ∧ lawB 18 true = true := by decide +kernel
theorem lawN_19 : lawB 19 false = true ∧ lawB 19 true = true := by decide +kernel
theorem lawN_20 : lawB 20 false = true ∧ lawB 20 true = true := by decide +kernel
theorem law_nested : ∀ {n : Nat}, n ≤ 20 → ∀ tw : Bool, lawB n tw = true := fun {n} hn tw => by
  have h : lawB n false = true ∧ lawB n true = true := by
    match n, hn with
    | 0, _ => exact lawN_0
    | 1, _ => exact lawN_1
    | 2, _ => exact lawN_2
    | 3, _ => exact lawN_3
    | 4, _ => exact lawN_4
    | 5, _ => exact lawN_5
    | 6, _ => exact lawN_6
    | 7, _ => exact lawN_7
    | 8, _ => exact lawN_8
    | 9, _ => exact lawN_9
    | 10, _ => exact lawN_10
    | 11, _ => exact lawN_11
    | 12, _ => exact lawN_12
    | 13, _ => exact lawN_13
    | 14, _ => exact lawN_14
    | 15, _ => exact lawN_15
    | 16, _ => exact lawN_16
    | 17, _ => exact lawN_17
    | 18, _ => exact lawN_18
    | 19, _ => exact lawN_19
    | 20, _ => exact lawN_20
    | n + 21, h => omega
  cases tw
  · exact h.1
  · exact h.2
end Go.Proofs.YtikmkalfdiiahaaGreatDoor
