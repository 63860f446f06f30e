/-
  Parts of this claim's texts, one behind the other: UD UE UF. No condition.
-/
import Derived.Test.YtikmkalfdiiahaaGreatDoorK18
set_option linter.unusedVariables false
set_option linter.unusedSimpArgs false
/-
  slices.ContainsFunc at []int for any closure; lift.Bools; lift.choice, plain. Conditions: a table of terms in memory.
-/
namespace Go.Proofs.YtikmkalfdiiahaaGreatDoor
open Go.RowKit Go.Sort Go.Lib

set_option maxHeartbeats 1000000 in
theorem idxG_any (P : Int → Bool) (fv : Nat) (caps : List Value) (a : Option Addr) (n c : Nat) (xs : List Int) (w : World) (h : RdI w a n xs) (hn : n < 1099511627776)
    (hen : ∀ args w, (callFunc fv args).run Tryz.prog w = .ok (.enter fv args) w)
    (hc : ∀ w1, Below w.heap.size w w1 → ∀ x ∈ xs, Calls Tryz.prog fv (Value.int .i64 x :: caps).toArray w1 fun e w' => e = .returned (.bool (P x)) ∧ Below w1.heap.size w1 w') :
    Calls Tryz.prog 70 #[.slice a n c, .func (.func fv) #[] caps.toArray] w fun e w' => e = .returned (.int .i64 (idxP P xs 0)) ∧ Below w.heap.size w w' := by
  have h' := Lib.hid h
  have lx := Lib.hid h.len
  have hc' := Lib.hid hc
  clear h hc
  go_enter Tryz.func70, Tryz.ntmps70
  go_wp2
  go_loopw [4, 5, 8] (fun _ _ i wr => ∃ k : Nat, k ≤ n ∧ i = .int .i64 k ∧ Hid (∀ j x, j < k → xs[j]? = some x → P x = false) ∧ Hid (Below w.heap.size w wr)) (fun _ _ i _ => n - (intOf i).toNat)
  case atStart => exact ⟨0, Nat.zero_le _, rfl, fun j f hj => absurd hj (Nat.not_lt_zero _), Below.refl _ _⟩
  case round =>
    obtain ⟨k, hk, rfl, hne, hB⟩ := hrel
    by_cases hlt2 : k < n
    · have hkx : k < xs.length := by rw [lx.out]; exact hlt2
      have hf := List.getElem?_eq_getElem hkx
      obtain ⟨b, o, rfl, k0⟩ := (h'.out.below hB.out (Nat.le_refl _)).at k hlt2
      have hcl := Lib.hid (hc'.out wr hB.out xs[k] (List.getElem_mem hkx))
      rw [nth_eq hkx] at k0
      have hf' := Lib.hid hf
      clear hf
      cases he : P xs[k]
      case true =>
        have hv := Lib.hid (idxP_hit (p := P) (fun j f hj hf => hne.out j f hj hf) hf'.out he)
        rw [he] at hcl
        generalize xs[k] = f at *
        clear he
        go_wp2_with fail
        refine hcl.out.mono ?_; rintro e w1 ⟨rfl, hb⟩
        have hb' := Lib.hid (hB.out.trans (hb.mono hB.out.size))
        clear hb
        go_wp2
        go_ret
        exact ⟨ret_int hv.out.symm, hb'.out⟩
      case false =>
        have hs := @Lib.hid (∀ j f, j < k + 1 → xs[j]? = some f → P f = false) (fun j f hj hf => by
          by_cases hjk : j < k
          · exact hne.out j f hjk hf
          · obtain rfl : j = k := by omega
            rw [hf'.out] at hf
            cases hf
            exact he)
        rw [he] at hcl
        generalize xs[k] = f at *
        clear he
        go_wp2_with fail
        refine hcl.out.mono ?_; rintro e w1 ⟨rfl, hb⟩
        have hb' := Lib.hid (hB.out.trans (hb.mono hB.out.size))
        clear hb
        go_wp2
        go_roundw
        case rel => exact ⟨k + 1, by omega, by go_num, hs.out, hb'.out⟩
        case measure => simp [intOf]; omega
    · have hv := Lib.hid (idxP_miss (p := P) (xs := xs) (fun j f hj hf => hne.out j f (by have := lx.out; omega) hf))
      go_wp2
      go_ret
      exact ⟨ret_int hv.out.symm, hB.out⟩
set_option maxHeartbeats 1000000 in
theorem hasG_any (P : Int → Bool) (fv : Nat) (caps : List Value) (a : Option Addr) (n c : Nat) (xs : List Int) (w : World) (h : RdI w a n xs) (hn : n < 1099511627776)
    (hen : ∀ args w, (callFunc fv args).run Tryz.prog w = .ok (.enter fv args) w)
    (hc : ∀ w1, Below w.heap.size w w1 → ∀ x ∈ xs, Calls Tryz.prog fv (Value.int .i64 x :: caps).toArray w1 fun e w' => e = .returned (.bool (P x)) ∧ Below w1.heap.size w1 w') :
    Calls Tryz.prog 36 #[.slice a n c, .func (.func fv) #[] caps.toArray] w fun e w' => e = .returned (.bool (xs.any P)) ∧ Below w.heap.size w w' := by
  have hi := Lib.hid (idxG_any P fv caps a n c xs w h hn hen hc)
  clear h hc
  have hidx := idxP_find (p := P) xs 0
  cases hf : xs.find? P with
  | none =>
    rw [hf] at hidx
    dsimp only at hidx
    have hv := @Lib.hid (xs.any P = false) (by rw [List.any_eq_false]; rw [List.find?_eq_none] at hf; exact hf)
    rw [hidx] at hi
    clear hidx hf
    go_enter Tryz.func36, Tryz.ntmps36
    go_wp2_with fail
    refine hi.out.mono ?_; rintro e w1 ⟨rfl, hb⟩
    have hb' := Lib.hid hb
    clear hb
    go_wp2
    go_ret
    exact ⟨ret_bool hv.out.symm, hb'.out⟩
  | some f =>
    rw [hf] at hidx
    dsimp only at hidx
    obtain ⟨k, hk1, hk2⟩ := hidx
    have hv := @Lib.hid (xs.any P = true) (by rw [List.any_eq_true]; exact ⟨f, List.mem_of_find?_eq_some hf, by have := List.find?_some hf; exact this⟩)
    rw [hk1] at hi
    clear hk1 hf
    go_enter Tryz.func36, Tryz.ntmps36
    go_wp2_with fail
    refine hi.out.mono ?_; rintro e w1 ⟨rfl, hb⟩
    have hb' := Lib.hid hb
    clear hb
    go_wp2
    go_ret
    exact ⟨ret_bool hv.out.symm, hb'.out⟩
/-! ### lift.Bools -/
def boolT (T : TermD) (i : Int) : Bool := (sortOf T i).2 && decide ((sortOf T i).1 = 0)
def boolsT (T : TermD) (ids : List Int) : Bool := !ids.any fun i => !boolT T i
set_option maxHeartbeats 1000000 in
theorem bools1_any (B p : Nat) (T : TermD) (i : Int) (x : Nat) (w : World) (h : TermX B p T w) (hx : w.cell? ⟨x, 0, none⟩ = some (.pointer (some ⟨p, 0, none⟩))) :
    Calls Tryz.prog 77 #[.int .i64 i, .pointer (some ⟨x, 0, none⟩)] w fun e w' => e = .returned (.bool (!boolT T i)) ∧ Below w.heap.size w w' := by
  have hs := Lib.hid (tsort_any B p T i w h)
  have hd := @Lib.hid (boolT T i = ((sortOf T i).2 && decide ((sortOf T i).1 = 0))) rfl
  generalize sortOf T i = r at *
  obtain ⟨s, ok⟩ := r
  dsimp only at *
  clear h
  cases ok
  case false =>
    have hv := @Lib.hid (true = !boolT T i) (by rw [hd.out]; rfl)
    clear hd
    go_enter Tryz.func77, Tryz.ntmps77
    go_wp2_with fail
    refine hs.out.mono ?_; rintro e w' ⟨rfl, rfl⟩
    go_wp2
    go_ret
    exact ⟨ret_bool hv.out, Below.refl _ _⟩
  case true =>
    have hv := @Lib.hid ((!decide (s = 0)) = !boolT T i) (by rw [hd.out]; rfl)
    clear hd
    go_enter Tryz.func77, Tryz.ntmps77
    go_wp2_with fail
    refine hs.out.mono ?_; rintro e w' ⟨rfl, rfl⟩
    go_wp2
    go_ret
    exact ⟨ret_bool hv.out, Below.refl _ _⟩
set_option maxHeartbeats 1000000 in
theorem bools_any (B p : Nat) (T : TermD) (a : Option Addr) (n c : Nat) (ids : List Int) (w : World) (h : TermX B p T w) (hx : RdI w a n ids) (hn : n < 1099511627776) :
    Calls Tryz.prog 41 #[.pointer (some ⟨p, 0, none⟩), .slice a n c] w fun e w' => e = .returned (.bool (boolsT T ids)) ∧ Below w.heap.size w w' := by
  have hB : Below w.heap.size w (w.alloc (.cells #[.pointer (some ⟨p, 0, none⟩)] 23)) := (Below.refl _ _).alloc (Nat.le_refl _) _
  have hhas := Lib.hid (hasG_any (fun i => !boolT T i) 77 [.pointer (some ⟨w.heap.size, 0, none⟩)] a n c ids _ (hx.below hB (Nat.le_refl _)) hn
    (enters_of Tryz.func77 (by kernel_rfl) rfl) (fun w1 hw x _ => bools1_any B p T x w.heap.size w1 ((h.all hB).all hw) (cell_p ((hw.block w.heap.size (by simp)).trans (heap_alloc_new w _)) 0)))
  have hv := @Lib.hid ((!ids.any fun i => !boolT T i) = boolsT T ids) rfl
  have hB' := Lib.hid hB
  clear h hx hB
  go_enter Tryz.func41, Tryz.ntmps41
  go_wp2_with fail
  refine hhas.out.mono ?_; rintro e w1 ⟨rfl, hb⟩
  have hb' := Lib.hid (hB'.out.trans (hb.mono hB'.out.size))
  clear hb
  go_wp2
  go_ret
  exact ⟨ret_bool hv.out, hb'.out⟩
/-! ### lift.choice, and what All's closure does, plain -/
def mk1 (T : TermD) (op a : Int) : (Int × Int) × TermD := makeD T op ⟨#[]⟩ noRat [a]
def mk2 (T : TermD) (op a b : Int) : (Int × Int) × TermD := makeD T op ⟨#[]⟩ noRat [a, b]
/-- one half of a choice: by implies that k is x -/
def halfD (T : TermD) (k by' x : Int) : (Int × Int) × TermD :=
  if (mk2 T 8 k x).1.2 = 0 then mk2 (mk2 T 8 k x).2 6 by' (mk2 T 8 k x).1.1 else (mk2 T 8 k x)
def choiceL (T : TermD) (k : Int) : List (Int × Int) → List Int → (List Int × Int) × TermD
  | [], out => ((out, 0), T)
  | (b, x) :: l, out => if (halfD T k b x).1.2 = 0 then choiceL (halfD T k b x).2 k l (out ++ [(halfD T k b x).1.1]) else (([], (halfD T k b x).1.2), (halfD T k b x).2)
def choiceD (T : TermD) (k : Int) (args : List Int) : (List Int × Int) × TermD :=
  if (mk1 T 3 (nth args 0)).1.2 = 0 then choiceL (mk1 T 3 (nth args 0)).2 k [(nth args 0, nth args 1), ((mk1 T 3 (nth args 0)).1.1, nth args 2)] [] else (([], (mk1 T 3 (nth args 0)).1.2), (mk1 T 3 (nth args 0)).2)
def liftF : OtherF (List Int) := fun T s _ n =>
  if n.op = 10 ∧ n.sort ≠ 0 then
    if (freshD T n.sort).1.2 = 0 then
      (((freshD T n.sort).1.1, true, (choiceD (freshD T n.sort).2 (freshD T n.sort).1.1 n.args).1.2), (choiceD (freshD T n.sort).2 (freshD T n.sort).1.1 n.args).2, s ++ (choiceD (freshD T n.sort).2 (freshD T n.sort).1.1 n.args).1.1)
    else ((0, false, (freshD T n.sort).1.2), (freshD T n.sort).2, s)
  else ((0, false, 0), T, s)
def allLift (T : TermD) (ids : List Int) : (List Int × List Int × Int) × TermD :=
  if boolsT T ids then
    if (turnD liftF T [] ids).1.2 = 0 then (((turnD liftF T [] ids).1.1, (turnD liftF T [] ids).2.2, 0), (turnD liftF T [] ids).2.1)
    else (([], [], (turnD liftF T [] ids).1.2), (turnD liftF T [] ids).2.1)
  else (([], [], 1), T)
end Go.Proofs.YtikmkalfdiiahaaGreatDoor

/-
  lift.choice. Conditions: a table of terms in memory; a node of three args; the library's tables as its text lays them.
-/
namespace Go.Proofs.YtikmkalfdiiahaaGreatDoor
open Go.RowKit Go.Sort Go.Lib

section
variable {w0 w w' : World} {p : Nat} {T : TermD} {X : Nat → Prop} {v v' : Value}
/-- behind an append to a row of the caller's own -/
theorem St.push (h : St w0 p { T with X := fun q => X q ∨ rowB v q } w) (hg : w.grownBy w' v.ownBlock) (hlt : ∀ k, v.ownBlock = some k → w0.heap.size ≤ k) (hl : v'.ownBlock = v.ownBlock ∨ ∀ k, v'.ownBlock = some k → w.heap.size ≤ k) (hlt' : ∀ k, v'.ownBlock = some k → k < w'.heap.size) :
    St w0 p { T with X := fun q => X q ∨ rowB v' q } w' := by
  have hb : Below w0.heap.size w w' := (Below.refl _ _).grown hg h.b.size hlt
  refine h.excl (X' := fun q => X q ∨ rowB v' q) hb (fun k _ hn => hg.block k ‹_› (fun e => hn (.inr e.symm))) (fun k e => ?_)
  rcases e with e | e
  · obtain ⟨q, v1, v2, m, ha⟩ := h.t
    exact ⟨.inl (.inl e), Nat.lt_of_lt_of_le (ha.xlt k (.inl e)).1 hg.size⟩
  · refine ⟨?_, hlt' k e⟩
    rcases hl with hl | hl
    · exact .inl (.inr (by show v.ownBlock = some k; rw [← hl]; exact e))
    · exact .inr (hl k e)
/-- fewer blocks of the caller's own -/
theorem St.fewer {Y : Nat → Prop} (h : St w0 p { T with X := X } w) (hY : ∀ k, Y k → X k) : St w0 p { T with X := Y } w :=
  h.excl (X' := Y) (Below.refl _ _) (fun _ _ _ => rfl) fun k hk => by
    obtain ⟨q, v1, v2, m, ha⟩ := h.t
    exact ⟨.inl (hY k hk), (ha.xlt k (hY k hk)).1⟩
/-- more of them: new ones -/
theorem St.more {Y : Nat → Prop} (h : St w0 p { T with X := X } w) (hb : Below w.heap.size w w') (hY : ∀ k, Y k → X k ∨ (w.heap.size ≤ k ∧ k < w'.heap.size)) : St w0 p { T with X := Y } w' :=
  h.excl (X' := Y) (hb.mono h.b.size) (fun k hk _ => hb.block k hk) fun k hk => by
    obtain ⟨q, v1, v2, m, ha⟩ := h.t
    rcases hY k hk with e | e
    · exact ⟨.inl e, Nat.lt_of_lt_of_le (ha.xlt k e).1 hb.size⟩
    · exact ⟨.inr e.1, e.2⟩
end
def ChoicePost (w0 : World) (p : Nat) (X : Nat → Prop) (R : (List Int × Int) × TermD) (w : World) (e : Ending) (w' : World) : Prop :=
  ∃ a c, e = .returned (.tuple #[.slice a R.1.1.length c, .int .i64 R.1.2]) ∧ OwnC w' w.heap.size 3 1 (.slice a R.1.1.length c) R.1.1.length (R.1.1.map (Value.int .i64)) ∧ St w0 p { R.2 with X := X } w' ∧ TStep p w w'
theorem mk2_grow {T : TermD} (h : TermG T) (op a b : Int) : TermG (mk2 T op a b).2 := (h.make op (nm := ⟨#[]⟩) (val := noRat) [a, b] (by decide) (by decide) (by decide)).g
theorem mk1_grow {T : TermD} (h : TermG T) (op a : Int) : TermG (mk1 T op a).2 := (h.make op (nm := ⟨#[]⟩) (val := noRat) [a] (by decide) (by decide) (by decide)).g
theorem mk2_bd {T : TermD} (h : TermG T) (op a b : Int) : okI (mk2 T op a b).1.1 := by have := make_bdU h.ok.sm op ⟨#[]⟩ noRat [a, b]; unfold okI; unfold mk2; omega
theorem mk1_bd {T : TermD} (h : TermG T) (op a : Int) : okI (mk1 T op a).1.1 := by have := make_bdU h.ok.sm op ⟨#[]⟩ noRat [a]; unfold okI; unfold mk1; omega
/-- Make of one, of two, a table beside blocks of the caller's -/
theorem mk1_call {w0 w : World} {p : Nat} {T : TermD} {X : Nat → Prop} (hE : EnvT w0) (h : St w0 p { T with X := X } w) (hG : TermG T) (op a : Int) (ho : okI op) (h11 : op ≠ 11) (ha : okI a) :
    Calls Tryz.prog 10 #[.pointer (some ⟨p, 0, none⟩), .int .i64 op, .string ⟨#[]⟩, .agg #[.bool false, .slice none 0 0, .slice none 0 0], .slice (some ⟨w.heap.size, 0, none⟩) 1 1] (w.alloc (.cells #[.int .i64 a] 3)) fun e w' =>
      e = .returned (.tuple #[.int .i64 (mk1 T op a).1.1, .int .i64 (mk1 T op a).1.2]) ∧ St w0 p { (mk1 T op a).2 with X := X } w' ∧ TStep p w w' := by
  have hl := h.lit (.cells #[.int .i64 a] 3)
  have hm := make_any w0.heap.size p { T with X := X } op ⟨#[]⟩ noRat [a] none none (some ⟨w.heap.size, 0, none⟩) 0 0 1 _ hl.t (hG.ok.sm.X X) (hl.env hE) (lit_args w op [a] ho (by intro x hx; simp at hx; subst hx; exact ha) (by show 1 ≤ maxLen; decide) h11)
  unfold MakePost at hm
  rw [makeD_X] at hm
  refine hm.mono ?_
  rintro e w' ⟨rfl, t, s⟩
  exact ⟨rfl, hl.step t s, (TStep.of_below h.t.plt ((Below.refl _ _).alloc (Nat.le_refl _) _)).trans s⟩
theorem mk2_call {w0 w : World} {p : Nat} {T : TermD} {X : Nat → Prop} (hE : EnvT w0) (h : St w0 p { T with X := X } w) (hG : TermG T) (op a b : Int) (ho : okI op) (h11 : op ≠ 11) (ha : okI a) (hb : okI b) :
    Calls Tryz.prog 10 #[.pointer (some ⟨p, 0, none⟩), .int .i64 op, .string ⟨#[]⟩, .agg #[.bool false, .slice none 0 0, .slice none 0 0], .slice (some ⟨w.heap.size, 0, none⟩) 2 2] (w.alloc (.cells #[.int .i64 a, .int .i64 b] 3)) fun e w' =>
      e = .returned (.tuple #[.int .i64 (mk2 T op a b).1.1, .int .i64 (mk2 T op a b).1.2]) ∧ St w0 p { (mk2 T op a b).2 with X := X } w' ∧ TStep p w w' := by
  have hl := h.lit (.cells #[.int .i64 a, .int .i64 b] 3)
  have hm := make_any w0.heap.size p { T with X := X } op ⟨#[]⟩ noRat [a, b] none none (some ⟨w.heap.size, 0, none⟩) 0 0 2 _ hl.t (hG.ok.sm.X X) (hl.env hE) (lit_args w op [a, b] ho (by intro x hx; simp at hx; rcases hx with rfl | rfl <;> assumption) (by show 2 ≤ maxLen; decide) h11)
  unfold MakePost at hm
  rw [makeD_X] at hm
  refine hm.mono ?_
  rintro e w' ⟨rfl, t, s⟩
  exact ⟨rfl, hl.step t s, (TStep.of_below h.t.plt ((Below.refl _ _).alloc (Nat.le_refl _) _)).trans s⟩
end Go.Proofs.YtikmkalfdiiahaaGreatDoor

/-
  lift.choice: its walk. Conditions: a table of terms in memory; a node of three args; the library's tables as its text lays them.
-/
namespace Go.Proofs.YtikmkalfdiiahaaGreatDoor
open Go.RowKit Go.Sort Go.Lib

theorem half_grow {T : TermD} (h : TermG T) (k b x : Int) : TermG (halfD T k b x).2 ∧ okI (halfD T k b x).1.1 := by
  unfold halfD
  split
  · exact ⟨mk2_grow (mk2_grow h _ _ _) _ _ _, mk2_bd (mk2_grow h _ _ _) _ _ _⟩
  · exact ⟨mk2_grow h _ _ _, mk2_bd h _ _ _⟩
section
variable {α : Type} {R : Rep α} {B p z : Nat} {T : TermD} {w w' : World} {a : Option Addr} {n : Nat} {xs : List α}
theorem SlR.tstepZ (h : SlR R (fun q => DatB w q ∧ q < z) w a n xs) (t : TermX B p T w) (s : TStep p w w') : SlR R (fun q => DatB w' q ∧ q < z) w' a n xs :=
  (h.keep (fun _ _ hk => t.dat s hk.1) s.size).mono fun _ _ hk => ⟨hk.1.same (t.dat s hk.1), hk.2⟩
theorem SlR.belowZ {B : Nat} (h : SlR R (fun q => DatB w q ∧ q < z) w a n xs) (hb : Below B w w') (hz : z ≤ B) : SlR R (fun q => DatB w' q ∧ q < z) w' a n xs :=
  (h.keep (fun q _ hk => hb.block q (Nat.lt_of_lt_of_le hk.2 hz)) hb.size).mono fun q _ hk => ⟨hk.1.same (hb.block q (Nat.lt_of_lt_of_le hk.2 hz)), hk.2⟩
end
theorem TStep.thenBelow {p B : Nat} {w w1 w2 : World} (h : TStep p w w1) (hb : Below B w1 w2) (hB : w.heap.size ≤ B) (hp : p < w.heap.size) : TStep p w w2 :=
  ⟨hb.os.trans h.os, hb.tape.trans h.tape, hb.output.trans h.output, Nat.le_trans h.size hb.size, fun k hk hn => by
    obtain ⟨e1, n1⟩ := h.block k hk hn
    exact ⟨(hb.block k (by omega)).trans e1, fun e => n1 ((ownT.same (hb.block p (by omega))).1 e)⟩⟩
set_option maxRecDepth 100000 in
set_option maxHeartbeats 8000000 in
theorem choice_any {w0 : World} (hE : EnvT w0) (p : Nat) (X : Nat → Prop) (T : TermD) (k : Int) (n : NodeD) (a b g : Option Addr) (c d e : Nat) (w : World) (h : St w0 p { T with X := X } w) (hG : TermG T) (hk : okI k) (hn : NodeS (DatB w) w n a c b d g e) (h3 : n.args.length = 3) :
    Calls Tryz.prog 44 #[.pointer (some ⟨p, 0, none⟩), .int .i64 k, nodeV n a c b d g e] w fun e w' => ChoicePost w0 p X (choiceD T k n.args) w e w' := by
  have hE' := Lib.hid hE
  obtain ⟨op, nm, ⟨ng, nu, de⟩, args, so⟩ := n
  dsimp only at h3
  have h3' := Lib.hid h3
  clear h3
  have hb0 : Below w.heap.size w (w.alloc (.cells #[.int .i64 op, .string nm, .bool ng, .slice a nu.length c, .slice b de.length d, .slice g args.length e, .int .i64 so] 37)) := (Below.refl _ _).alloc (Nat.le_refl _) _
  have hX0 := heap_alloc_new w (.cells #[.int .i64 op, .string nm, .bool ng, .slice a nu.length c, .slice b de.length d, .slice g args.length e, .int .i64 so] 37)
  have R1 : SlR Rep.int (fun q => DatB (w.alloc (.cells #[.int .i64 op, .string nm, .bool ng, .slice a nu.length c, .slice b de.length d, .slice g args.length e, .int .i64 so] 37)) q ∧ q < w.heap.size) (w.alloc (.cells #[.int .i64 op, .string nm, .bool ng, .slice a nu.length c, .slice b de.length d, .slice g args.length e, .int .i64 so] 37)) g args.length args := (hn.args.mono fun q _ hd => ⟨hd, hd.lt⟩ : SlR Rep.int (fun q => DatB w q ∧ q < w.heap.size) w g args.length args).belowZ hb0 (Nat.le_refl _)
  have hwf := Lib.hid (show ∀ j, j < 3 → okI (nth args j) from fun j hj => hn.args.toI.wf _ (nth_mem (by have := h3'.out; show j < args.length; omega)))
  have I1 := h.more (Y := fun q => X q ∨ q = w.heap.size) hb0 (fun k hk => by
    rcases hk with hk | rfl
    · exact .inl hk
    · exact .inr ⟨Nat.le_refl _, by simp⟩)
  have S1 := Lib.hid (TStep.of_below h.t.plt hb0)
  have hsz1 : w.heap.size < (w.alloc (.cells #[.int .i64 op, .string nm, .bool ng, .slice a nu.length c, .slice b de.length d, .slice g args.length e, .int .i64 so] 37)).heap.size := by simp
  have hpw := Lib.hid (show p < w.heap.size from h.t.plt)
  have hBw := Lib.hid (show w0.heap.size ≤ w.heap.size from h.b.size)
  generalize hw1 : w.alloc (.cells #[.int .i64 op, .string nm, .bool ng, .slice a nu.length c, .slice b de.length d, .slice g args.length e, .int .i64 so] 37) = w1 at *
  have q5 : w1.cell? ⟨w.heap.size, 5, none⟩ = some (.slice g args.length e) := cell_p hX0 5
  obtain ⟨b1, o1, rfl, k0⟩ := R1.toI.at 0 (by have := h3'.out; omega)
  rw [Nat.add_zero] at k0
  have hc1 := Lib.hid (mk1_call hE I1 hG 3 (nth args 0) ⟨by decide, by decide⟩ (by decide) (hwf.out 0 (by omega)))
  have hG1 := Lib.hid (mk1_grow hG 3 (nth args 0))
  have hd1 := Lib.hid (mk1_bd hG 3 (nth args 0))
  have hdef := @Lib.hid (choiceD T k args = if (mk1 T 3 (nth args 0)).1.2 = 0 then choiceL (mk1 T 3 (nth args 0)).2 k [(nth args 0, nth args 1), ((mk1 T 3 (nth args 0)).1.1, nth args 2)] [] else (([], (mk1 T 3 (nth args 0)).1.2), (mk1 T 3 (nth args 0)).2)) rfl
  have R1' := Lib.hid R1
  have I1' := Lib.hid I1
  have hX0' := Lib.hid hX0
  have h3i : (0 : Int) < args.length := by have := h3'.out; omega
  generalize mk1 T 3 (nth args 0) = M at *
  obtain ⟨⟨nt, en⟩, T1⟩ := M
  dsimp only at hc1 hG1 hd1 hdef
  clear h hE hG hn hb0 R1 I1 hX0
  go_enter Tryz.func44, Tryz.ntmps44
  go_wp2_with fail
  refine hc1.out.mono ?_; rintro e1 w2 ⟨rfl, i2, s2⟩
  have I2 := Lib.hid i2
  have S2 := Lib.hid (S1.out.trans s2)
  have R2 := Lib.hid (R1'.out.tstepZ I1'.out.t s2)
  have X2 := Lib.hid ((I1'.out.own (.inr rfl) s2).trans hX0'.out)
  clear i2 s2 hc1 S1 R1' I1' hX0' q5 k0 hw1
  by_cases hen : en = 0
  case neg =>
    rw [if_neg hen] at hdef
    go_wp2
    go_ret2
    rw [hdef.out]
    exact ⟨none, 0, rfl, OwnC.nil _ _ _ _, I2.out.fewer (fun k hk => .inl hk), S2.out⟩
  case pos =>
    subst hen
    rw [if_pos rfl] at hdef
    have q5 : w2.cell? ⟨w.heap.size, 5, none⟩ = some (.slice (some ⟨b1, o1, none⟩) args.length e) := cell_p X2.out 5
    obtain ⟨b2, o2, hbo, k0⟩ := R2.out.toI.at 0 (by have := h3'.out; omega)
    injection hbo with hbo
    injection hbo with h1 h2 h9
    subst h1 h2
    rw [Nat.add_zero] at k0
    have hb3 : Below w2.heap.size w2 (w2.alloc (.cells #[.int .i64 (nth args 0), .int .i64 nt] 3)) := (Below.refl _ _).alloc (Nat.le_refl _) _
    have I3 := Lib.hid (I2.out.more (Y := fun q => ((X q ∨ q = w.heap.size) ∨ q = w2.heap.size) ∨ rowB (.slice none 0 0) q) hb3 (fun k hk => by
      rcases hk with (hk | rfl) | hk
      · exact .inl hk
      · exact .inr ⟨Nat.le_refl _, by simp⟩
      · cases hk))
    have S3 := Lib.hid (S2.out.trans (TStep.of_below I2.out.t.plt hb3))
    have R3 := Lib.hid (R2.out.belowZ hb3 (Nat.le_of_lt (Array.getElem?_eq_some_iff.1 X2.out).1))
    have X3 := Lib.hid ((hb3.block _ (Array.getElem?_eq_some_iff.1 X2.out).1).trans X2.out)
    have Y3 := Lib.hid (heap_alloc_new w2 (.cells #[.int .i64 (nth args 0), .int .i64 nt] 3))
    have hwz := Lib.hid (show w.heap.size < w2.heap.size from (Array.getElem?_eq_some_iff.1 X2.out).1)
    have hwz' := hwz.out
    have hz23 : w2.heap.size < (w2.alloc (.cells #[.int .i64 (nth args 0), .int .i64 nt] 3)).heap.size := by simp
    obtain ⟨i0, hi0, hz0, hz1, hz2⟩ := info_parts info_int
    clear hb3 I2 S2 R2
    go_wp2
    generalize hw3 : w2.alloc (.cells #[.int .i64 (nth args 0), .int .i64 nt] 3) = w3 at *
    clear hw3
    go_loopw [6, 7, 9, 10, 11, 12, 13, 35] (fun v6 v7 _ _ _ _ _ v35 wr => ∃ (j : Nat) (T' : TermD) (out : List Int), j ≤ 2 ∧ v35 = .int .i64 j ∧ v7 = .int .i64 0 ∧ Hid (choiceD T k args = choiceL T' k ([(nth args 0, nth args 1), (nt, nth args 2)].drop j) out) ∧ out.length ≤ j ∧ Hid (St w0 p { T' with X := fun q => ((X q ∨ q = w.heap.size) ∨ q = w2.heap.size) ∨ rowB v6 q } wr) ∧ Hid (TermG T') ∧ w3.heap.size ≤ wr.heap.size ∧ Hid (OwnC wr w3.heap.size 3 1 v6 out.length (out.map (Value.int .i64))) ∧ Hid (TStep p w wr) ∧ Hid (SlR Rep.int (fun q => DatB wr q ∧ q < w.heap.size) wr (some ⟨b1, o1, none⟩) args.length args) ∧ Hid (wr.heap[w.heap.size]? = some (.cells #[.int .i64 op, .string nm, .bool ng, .slice a nu.length c, .slice b de.length d, .slice (some ⟨b1, o1, none⟩) args.length e, .int .i64 so] 37 (0, 0))) ∧ Hid (wr.heap[w2.heap.size]? = some (.cells #[.int .i64 (nth args 0), .int .i64 nt] 3 (0, 0)))) (fun _ _ _ _ _ _ _ v35 _ => 2 - (intOf v35).toNat)
    case atStart => exact ⟨0, T1, [], Nat.zero_le _, rfl, rfl, hdef.out, Nat.le_refl _, I3.out, hG1.out, Nat.le_refl _, OwnC.nil _ _ _ _, S3.out, R3.out, X3.out, Y3.out⟩
    case round =>
      obtain ⟨j, T', out, hj, rfl, rfl, hCL, hol, hI, hGT, hz3, hO, hS, hR, hX, hL⟩ := hrel
      obtain ⟨ao, co, rfl, hcc1, hcc2⟩ := hO.out.slice
      by_cases hlt : j < 2
      · obtain ⟨bj, xj, hdrop, hbj, hxj, hbo, hxo⟩ : ∃ bj xj, [(nth args 0, nth args 1), (nt, nth args 2)].drop j = (bj, xj) :: [(nth args 0, nth args 1), (nt, nth args 2)].drop (j + 1) ∧ #[Value.int .i64 (nth args 0), .int .i64 nt][j]? = some (.int .i64 bj) ∧ nth args (1 + j) = xj ∧ okI bj ∧ okI xj := by
          have : j = 0 ∨ j = 1 := by omega
          rcases this with rfl | rfl
          · exact ⟨_, _, rfl, rfl, rfl, hwf.out 0 (by omega), hwf.out 1 (by omega)⟩
          · exact ⟨_, _, rfl, rfl, rfl, hd1.out, hwf.out 2 (by omega)⟩
        have kj : wr.cell? ⟨w2.heap.size, j, none⟩ = some (.int .i64 bj) := (cell_p hL.out j).trans hbj
        have q5 : wr.cell? ⟨w.heap.size, 5, none⟩ = some (.slice (some ⟨b1, o1, none⟩) args.length e) := cell_p hX.out 5
        obtain ⟨b2, o2, hbo2, k1⟩ := hR.out.toI.at (1 + j) (by have := h3'.out; omega)
        injection hbo2 with hbo2
        injection hbo2 with h1 h2 h4
        subst h1 h2
        rw [hxj] at k1
        have hm1 := Lib.hid (mk2_call hE'.out hI.out hGT.out 8 k xj ⟨by decide, by decide⟩ (by decide) hk hxo)
        have hG2 := Lib.hid (mk2_grow hGT.out 8 k xj)
        have hd2 := Lib.hid (mk2_bd hGT.out 8 k xj)
        have hhf := @Lib.hid (halfD T' k bj xj = if (mk2 T' 8 k xj).1.2 = 0 then mk2 (mk2 T' 8 k xj).2 6 bj (mk2 T' 8 k xj).1.1 else (mk2 T' 8 k xj)) rfl
        have hCL2 := hCL.out
        rw [hdrop] at hCL2
        unfold choiceL at hCL2
        have hCL3 := Lib.hid hCL2
        have hbo' := Lib.hid hbo
        have hji : (1 : Int) + j < args.length := by have := h3'.out; omega
        have hj2 : (j : Int) < 2 := by omega
        clear hCL hCL2 hdrop hbj hxj hbo hxo
        generalize mk2 T' 8 k xj = M at *
        obtain ⟨⟨is, e1⟩, T2⟩ := M
        dsimp only at hm1 hG2 hd2 hhf
        go_wp2_with fail
        refine hm1.out.mono ?_; rintro e2 w4 ⟨rfl, i4, s4⟩
        have hlit : ∀ k, k < wr.heap.size → k < wr.heap.size := fun _ h => h
        have I4 := Lib.hid i4
        have X4 := Lib.hid ((hI.out.own (.inl (.inl (.inr rfl))) s4).trans hX.out)
        have L4 := Lib.hid ((hI.out.own (.inl (.inr rfl)) s4).trans hL.out)
        have R4 := Lib.hid (hR.out.tstepZ hI.out.t s4)
        have O4 := Lib.hid (hO.out.same fun k hk => hI.out.own (.inr hk) s4)
        have S4 := Lib.hid (hS.out.trans s4)
        have hz4 : w3.heap.size ≤ w4.heap.size := Nat.le_trans hz3 s4.size
        clear hlit i4 s4 hm1 hI hX hL hR hO hS kj q5 k1
        by_cases he1 : e1 = 0
        case neg =>
          rw [if_neg he1] at hhf
          have hfin := hCL3.out
          rw [hhf.out, if_neg he1] at hfin
          have hfin' := Lib.hid hfin
          clear hfin
          go_wp2
          go_ret2
          rw [hfin'.out]
          exact ⟨none, 0, rfl, OwnC.nil _ _ _ _, I4.out.fewer (fun k hk => .inl (.inl (.inl hk))), S4.out⟩
        case pos =>
          subst he1
          rw [if_pos rfl] at hhf
          have hm2 := Lib.hid (mk2_call hE'.out I4.out hG2.out 6 bj is ⟨by decide, by decide⟩ (by decide) hbo'.out hd2.out)
          have hG3 := Lib.hid (mk2_grow hG2.out 6 bj is)
          have hd3 := Lib.hid (mk2_bd hG2.out 6 bj is)
          generalize mk2 T2 6 bj is = M at *
          obtain ⟨⟨id, e2⟩, T3⟩ := M
          dsimp only at hm2 hG3 hd3
          have hfin := hCL3.out
          rw [hhf.out] at hfin
          dsimp only at hfin
          go_wp2_with fail
          refine hm2.out.mono ?_; rintro e3 w5 ⟨rfl, i5, s5⟩
          have I5 := Lib.hid i5
          have X5 := Lib.hid ((I4.out.own (.inl (.inl (.inr rfl))) s5).trans X4.out)
          have L5 := Lib.hid ((I4.out.own (.inl (.inr rfl)) s5).trans L4.out)
          have R5 := Lib.hid (R4.out.tstepZ I4.out.t s5)
          have O5 := Lib.hid (O4.out.same fun k hk => I4.out.own (.inr hk) s5)
          have S5 := Lib.hid (S4.out.trans s5)
          have hz5 : w3.heap.size ≤ w5.heap.size := Nat.le_trans hz4 s5.size
          clear i5 s5 hm2 I4 X4 L4 R4 O4 S4
          by_cases he2 : e2 = 0
          case neg =>
            rw [if_neg he2] at hfin
            have hfin' := Lib.hid hfin
            clear hfin
            go_wp2
            go_ret2
            rw [hfin'.out]
            exact ⟨none, 0, rfl, OwnC.nil _ _ _ _, I5.out.fewer (fun k hk => .inl (.inl (.inl hk))), S5.out⟩
          case pos =>
            subst he2
            rw [if_pos rfl] at hfin
            have hfin' := Lib.hid hfin
            have hwz5 : w.heap.size < w5.heap.size := (Array.getElem?_eq_some_iff.1 X5.out).1
            clear hfin
            go_wp2_with (at_builtin; refine wpList_append_C rfl (.tmp 69) (.tmp 71) rfl Tryz.underlying33 hi0 hz0 hz1 hz2 rfl (by decide) rfl rfl (O5.out.alloc _) (Src.one (b := w5.heap.size) (news := [.int .i64 id]) rfl ?c1) ?c2 ?c3 ?c4 ?c5 ?_)
            case c1 => intro j u hu; rw [World.cell?_alloc_new]; simpa using hu
            case c2 => intro u hu; simp at hu; subst hu; rfl
            case c3 => unfold maxLen; omega
            case c4 => omega
            case c5 => first | omega | (simp; omega)
            intro v' w6 ho6 hg6 hl6
            have hb6 : Below w5.heap.size w5 (w5.alloc (.cells #[.int .i64 id] 3)) := (Below.refl _ _).alloc (Nat.le_refl _) _
            have I5a := I5.out.all hb6
            have I6 := Lib.hid (I5a.push hg6 (fun k hk => by have := (O5.out.lt k hk).1; have := hBw.out; omega) (hl6.imp (fun h => h) fun h k hk => by rw [World.size_alloc]; exact h k hk) (fun k hk => (ho6.lt k hk).2))
            have hne : ∀ q, q < w3.heap.size → (Value.slice ao out.length co).ownBlock ≠ some q := fun q hq e => by have := (O5.out.lt q e).1; omega
            have X6 := Lib.hid ((hg6.block w.heap.size (by simp; omega) (fun e => hne _ (by omega) e.symm)).trans ((hb6.block _ hwz5).trans X5.out))
            have L6 := Lib.hid ((hg6.block w2.heap.size (by simp; omega) (fun e => hne _ (by omega) e.symm)).trans ((hb6.block _ (by omega)).trans L5.out))
            have B6 : Below w3.heap.size w5 w6 := (hb6.mono hz5).trans ((Below.refl _ _).grown hg6 (by simp; omega) (fun k hk => (O5.out.lt k hk).1))
            have R6 := Lib.hid (R5.out.belowZ B6 (by omega))
            have S6 := Lib.hid (S5.out.thenBelow B6 (by omega) hpw.out)
            have O6 := Lib.hid (show OwnC w6 w3.heap.size 3 1 v' (out ++ [id]).length ((out ++ [id]).map (Value.int .i64)) from by rw [List.length_append, List.length_singleton, List.map_append]; exact ho6)
            have hz6 : w3.heap.size ≤ w6.heap.size := Nat.le_trans hz5 B6.size
            clear hb6 I5a hne B6 ho6 hg6 hl6 I5 X5 L5 R5 O5 S5
            go_wp2
            go_roundw
            case rel => exact ⟨j + 1, T3, out ++ [id], by omega, by go_num, rfl, hfin'.out, by simp; omega, I6.out, hG3.out, hz6, O6.out, S6.out, R6.out, X6.out, L6.out⟩
            case measure => simp [intOf]; omega
      · obtain rfl : j = 2 := by omega
        have hfin := hCL.out
        rw [show [(nth args 0, nth args 1), (nt, nth args 2)].drop 2 = [] from rfl] at hfin
        unfold choiceL at hfin
        have hfin' := Lib.hid hfin
        have O7 := Lib.hid (hO.out.lower (base' := w.heap.size) (by omega))
        clear hfin
        go_wp2
        go_ret2
        rw [hfin'.out]
        exact ⟨ao, co, rfl, O7.out, hI.out.fewer (fun k hk => .inl (.inl (.inl hk))), hS.out⟩
end Go.Proofs.YtikmkalfdiiahaaGreatDoor
