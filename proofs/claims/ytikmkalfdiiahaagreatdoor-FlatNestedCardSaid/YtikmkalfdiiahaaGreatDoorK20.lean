/-
  Parts of this claim's texts, one behind the other: UG UH UI. No condition.
-/
import Derived.Test.YtikmkalfdiiahaaGreatDoorK19
set_option linter.unusedVariables false
set_option linter.unusedSimpArgs false
/-
  lift.All: its closure. Conditions: a table of terms in memory; the library's tables as its text lays them.
-/
namespace Go.Proofs.YtikmkalfdiiahaaGreatDoor
open Go.RowKit Go.Sort Go.Lib

/-- the closure's own: the box of the table's pointer, the box of the row that it appends to, that row -/
structure LiftJ (w0 : World) (p bt bm : Nat) (s : List Int) (w : World) : Prop where
  lt : w0.heap.size ≤ bt ∧ w0.heap.size ≤ bm ∧ bt ≠ bm
  t : w.heap[bt]? = some (.cells #[.pointer (some ⟨p, 0, none⟩)] 23 (0, 0))
  m : ∃ v, w.heap[bm]? = some (.cells #[v] 33 (0, 0)) ∧ OwnC w bm 3 1 v s.length (s.map (Value.int .i64))
def LiftD (bt bm : Nat) (_s : List Int) (w : World) (k : Nat) : Prop := k = bt ∨ k = bm ∨ ∃ v, w.heap[bm]? = some (.cells #[v] 33 (0, 0)) ∧ v.ownBlock = some k
section
variable {w0 w w' : World} {p bt bm : Nat} {s : List Int}
theorem LiftD.iff {v : Value} (hv : w.heap[bm]? = some (.cells #[v] 33 (0, 0))) (k : Nat) : LiftD bt bm s w k ↔ k = bt ∨ k = bm ∨ v.ownBlock = some k := by
  unfold LiftD
  constructor
  · rintro (h | h | ⟨u, hu, h⟩)
    · exact .inl h
    · exact .inr (.inl h)
    · rw [hv] at hu
      injection hu with hu
      injection hu with hu
      have : v = u := by simpa using hu
      exact .inr (.inr (this ▸ h))
  · rintro (h | h | h)
    · exact .inl h
    · exact .inr (.inl h)
    · exact .inr (.inr ⟨v, hv, h⟩)
theorem LiftJ.ltD (h : LiftJ w0 p bt bm s w) (k : Nat) (hk : LiftD bt bm s w k) : w0.heap.size ≤ k ∧ k < w.heap.size := by
  obtain ⟨v, hv, ho⟩ := h.m
  rcases (LiftD.iff hv k).1 hk with rfl | rfl | hk
  · exact ⟨h.lt.1, (Array.getElem?_eq_some_iff.1 h.t).1⟩
  · exact ⟨h.lt.2.1, (Array.getElem?_eq_some_iff.1 hv).1⟩
  · exact ⟨Nat.le_trans h.lt.2.1 (ho.lt k hk).1, (ho.lt k hk).2⟩
theorem LiftJ.keep (h : LiftJ w0 p bt bm s w) (hk : ∀ k, LiftD bt bm s w k → w'.heap[k]? = w.heap[k]?) : LiftJ w0 p bt bm s w' ∧ ∀ k, LiftD bt bm s w' k ↔ LiftD bt bm s w k := by
  obtain ⟨v, hv, ho⟩ := h.m
  have hv' := (hk bm (.inr (.inl rfl))).trans hv
  refine ⟨⟨h.lt, (hk bt (.inl rfl)).trans h.t, ⟨v, hv', ho.same fun k e => hk k ((LiftD.iff hv k).2 (.inr (.inr e)))⟩⟩, fun k => ?_⟩
  rw [LiftD.iff hv', LiftD.iff hv]
end
theorem choiceL_grow {k : Int} : ∀ (l : List (Int × Int)) {T : TermD} (_ : TermG T) (out : List Int), GrowT T (choiceL T k l out).2 0 ∧ (choiceL T k l out).1.1.length ≤ out.length + l.length ∧ ((∀ x ∈ out, okI x) → ∀ x ∈ (choiceL T k l out).1.1, okI x)
  | [], T, h, out => ⟨.refl h, Nat.le_refl _, fun h => h⟩
  | (b, x) :: l, T, h, out => by
    have hg : GrowT T (halfD T k b x).2 0 := by
      have g1 := h.make 8 (nm := ⟨#[]⟩) (val := noRat) [k, x] (by decide) (by decide) (by decide)
      unfold halfD
      split
      · exact g1.trans (g1.g.make 6 (nm := ⟨#[]⟩) (val := noRat) _ (by decide) (by decide) (by decide))
      · exact g1
    unfold choiceL
    split
    · obtain ⟨r1, r2, r3⟩ := choiceL_grow l hg.g (out ++ [(halfD T k b x).1.1])
      refine ⟨hg.trans r1, by rw [List.length_append, List.length_singleton] at r2; rw [List.length_cons]; omega, fun ho => r3 fun y hy => ?_⟩
      rcases List.mem_append.1 hy with hy | hy
      · exact ho y hy
      · obtain rfl := List.mem_singleton.1 hy
        exact (half_grow h k b x).2
    · exact ⟨hg, Nat.zero_le _, fun _ y hy => by simp at hy⟩
theorem choice_grow {T : TermD} (h : TermG T) (k : Int) (args : List Int) : GrowT T (choiceD T k args).2 0 ∧ (choiceD T k args).1.1.length ≤ 2 ∧ ∀ x ∈ (choiceD T k args).1.1, okI x := by
  have g1 := h.make 3 (nm := ⟨#[]⟩) (val := noRat) [nth args 0] (by decide) (by decide) (by decide)
  unfold choiceD
  split
  · obtain ⟨r1, r2, r3⟩ := choiceL_grow (k := k) [(nth args 0, nth args 1), ((mk1 T 3 (nth args 0)).1.1, nth args 2)] g1.g []
    exact ⟨g1.trans r1, r2, r3 (by simp)⟩
  · exact ⟨g1, Nat.zero_le _, by simp⟩
theorem okI_0 : okI 0 := ⟨by decide, by decide⟩
theorem put_bdF {T : TermD} (h : TermG T) (s : Int) : okI (freshD T s).1.1 := by
  have := put_bdU h.ok.sm (freshNode T s)
  unfold freshD
  split
  · split
    · unfold okI; dsimp only; omega
    · unfold okI; omega
  · exact okI_0
theorem liftF_grow (T : TermD) (s : List Int) (id : Int) (n : NodeD) (h : TermG T) (hf : T.fresh ≤ 1000000000000) : GrowT T (liftF T s id n).2.1 100 ∧ okI (liftF T s id n).1.1 ∧ (liftF T s id n).2.2.length ≤ s.length + 100 := by
  have g1 := h.fresh n.sort (by omega)
  unfold liftF
  split
  · split
    · obtain ⟨r1, r2, _⟩ := choice_grow g1.g (freshD T n.sort).1.1 n.args
      exact ⟨(g1.trans r1).mono (by decide), put_bdF h n.sort, by dsimp only; rw [List.length_append]; omega⟩
    · exact ⟨g1.mono (by decide), okI_0, Nat.le_add_right _ _⟩
  · exact ⟨(GrowT.refl h).mono (by decide), okI_0, Nat.le_add_right _ _⟩
end Go.Proofs.YtikmkalfdiiahaaGreatDoor

/-
  lift.All: its closure's walk. Conditions: a table of terms in memory; the library's tables as its text lays them.
-/
namespace Go.Proofs.YtikmkalfdiiahaaGreatDoor
open Go.RowKit Go.Sort Go.Lib

section
variable {w0 w w1 w3 w4 : World} {p bt bm : Nat} {s l : List Int} {T T' : TermD} {Y : Nat → Prop} {v v' : Value}
/-- what the closure does not touch of its own -/
theorem lift_same (h : Cx w0 p (LiftJ w0 p bt bm) (LiftD bt bm) Y T s w) (I : St w0 p { T' with X := fun k => LiftD bt bm s w k ∨ Y k } w3) (S : TStep p w w3) (hD : ∀ k, LiftD bt bm s w k → w3.heap[k]? = w.heap[k]?) :
    Cx w0 p (LiftJ w0 p bt bm) (LiftD bt bm) Y T' s w3 ∧ OStep p (LiftD bt bm s w) (LiftD bt bm s w3) w w3 := by
  obtain ⟨hj, hd⟩ := h.j.keep hD
  refine ⟨⟨?_, I.b, hj⟩, OStep.ofT S fun k e => (hd k).1 e⟩
  have e : (fun k => LiftD bt bm s w3 k ∨ Y k) = (fun k => LiftD bt bm s w k ∨ Y k) := funext fun k => propext (or_congr (hd k) Iff.rfl)
  rw [e]
  exact I.t
/-- behind its append -/
theorem lift_push (h : Cx w0 p (LiftJ w0 p bt bm) (LiftD bt bm) Y T s w) (I : St w0 p { T' with X := fun k => LiftD bt bm s w k ∨ Y k } w3) (S : TStep p w w3) (hD : ∀ k, LiftD bt bm s w k → w3.heap[k]? = w.heap[k]?)
    (hv : w3.heap[bm]? = some (.cells #[v] 33 (0, 0))) (hv3 : OwnC w3 bm 3 1 v s.length (s.map (Value.int .i64))) (hg : w3.grownBy w4 v.ownBlock) (hl : v'.ownBlock = v.ownBlock ∨ ∀ k, v'.ownBlock = some k → w3.heap.size ≤ k)
    (ho : OwnC w4 bm 3 1 v' (s ++ l).length ((s ++ l).map (Value.int .i64))) :
    Cx w0 p (LiftJ w0 p bt bm) (LiftD bt bm) Y T' (s ++ l) (w4.setCell ⟨bm, 0, none⟩ v') ∧ OStep p (LiftD bt bm s w) (LiftD bt bm (s ++ l) (w4.setCell ⟨bm, 0, none⟩ v')) w (w4.setCell ⟨bm, 0, none⟩ v') := by
  obtain ⟨hj, hd⟩ := h.j.keep hD
  have ht3 := hj.t
  have hbt : bt < w3.heap.size := (Array.getElem?_eq_some_iff.1 ht3).1
  have hbm : bm < w3.heap.size := (Array.getElem?_eq_some_iff.1 hv).1
  have n1 : v.ownBlock ≠ some bt := fun e => ty_ne (by decide) (hv3.ty bt e) ⟨_, _, ht3⟩
  have n2 : v.ownBlock ≠ some bm := fun e => ty_ne (by decide) (hv3.ty bm e) ⟨_, _, hv⟩
  have hv4 : w4.heap[bm]? = some (.cells #[v] 33 (0, 0)) := (hg.block bm hbm n2.symm).trans hv
  have n3 : v'.ownBlock ≠ some bm := fun e => ty_ne (by decide) (ho.ty bm e) ⟨_, _, hv4⟩
  generalize hw5 : w4.setCell ⟨bm, 0, none⟩ v' = w5
  have s5 : ∀ k, k ≠ bm → w5.heap[k]? = w4.heap[k]? := fun k hk => by subst hw5; exact Below.heap_setCell _ _ _ _ (fun e => hk e)
  have z5 : w5.heap.size = w4.heap.size := by subst hw5; exact size_set
  have m5 : w5.heap[bm]? = some (.cells #[v'] 33 (0, 0)) := by
    subst hw5
    unfold World.setCell
    rw [Array.getElem?_modify, if_pos rfl, hv4]
    rfl
  have o5 : w5.os = w4.os ∧ w5.tape = w4.tape ∧ w5.output = w4.output := by subst hw5; exact ⟨rfl, rfl, rfl⟩
  have k5 : ∀ k, k < w3.heap.size → v.ownBlock ≠ some k → k ≠ bm → w5.heap[k]? = w3.heap[k]? := fun k h1 h2 h3 => (s5 k h3).trans (hg.block k h1 h2.symm)
  have hDi : ∀ k, LiftD bt bm s w k ↔ k = bt ∨ k = bm ∨ v.ownBlock = some k := fun k => (hd k).symm.trans (LiftD.iff hv k)
  have hD5 : ∀ k, LiftD bt bm (s ++ l) w5 k ↔ k = bt ∨ k = bm ∨ v'.ownBlock = some k := fun k => LiftD.iff m5 k
  have hX : ∀ k, LiftD bt bm s w k ∨ Y k → k < w3.heap.size ∧ ¬ ownT p w3 k := fun k hk => by
    obtain ⟨q, v1, v2, m, ha⟩ := I.t
    exact ⟨(ha.xlt k hk).1, (ha.xlt k hk).2.1⟩
  have hB5 : Below w0.heap.size w3 w5 := by
    refine ⟨o5.1.trans hg.os, o5.2.1.trans hg.tape, o5.2.2.trans hg.output, by rw [z5]; exact hg.size, fun k hk => k5 k (Nat.lt_of_lt_of_le hk I.b.size) (fun e => ?_) (fun e => ?_)⟩
    · have := (hv3.lt k e).1; have := h.j.lt.2.1; omega
    · have := h.j.lt.2.1; omega
  have hp : w5.heap[p]? = w3.heap[p]? := k5 p I.t.plt (fun e => (hX p (.inl ((hDi p).2 (.inr (.inr e))))).2 (.inl (.inl rfl))) (fun e => (hX p (.inl ((hDi p).2 (.inr (.inl e))))).2 (.inl (.inl rfl)))
  refine ⟨⟨?_, I.b.trans hB5, ⟨h.j.lt, (k5 bt hbt n1 h.j.lt.2.2).trans ht3, ⟨v', m5, ho.same fun k e => s5 k fun e2 => n3 (e2 ▸ e)⟩⟩⟩, ⟨?_, ?_, ?_, ?_, fun k h1 h2 h3 => ⟨?_, ?_, ?_⟩⟩⟩
  · refine (I.excl (X' := fun k => LiftD bt bm (s ++ l) w5 k ∨ Y k) hB5 (fun k hk hn => k5 k hk (fun e => hn (.inl ((hDi k).2 (.inr (.inr e))))) (fun e => hn (.inl ((hDi k).2 (.inr (.inl e)))))) (fun k hk => ?_)).t
    rcases hk with hk | hk
    · rcases (hD5 k).1 hk with hk | hk | hk
      · have hx : LiftD bt bm s w k := (hDi k).2 (.inl hk)
        exact ⟨.inl (.inl hx), by rw [z5]; exact Nat.lt_of_lt_of_le (hX k (.inl hx)).1 hg.size⟩
      · have hx : LiftD bt bm s w k := (hDi k).2 (.inr (.inl hk))
        exact ⟨.inl (.inl hx), by rw [z5]; exact Nat.lt_of_lt_of_le (hX k (.inl hx)).1 hg.size⟩
      · refine ⟨?_, by rw [z5]; exact (ho.lt k hk).2⟩
        rcases hl with hl | hl
        · exact .inl (.inl ((hDi k).2 (.inr (.inr (by rw [← hl]; exact hk)))))
        · exact .inr (hl k hk)
    · exact ⟨.inl (.inr hk), by rw [z5]; exact Nat.lt_of_lt_of_le (hX k (.inr hk)).1 hg.size⟩
  · exact (o5.1.trans hg.os).trans S.os
  · exact (o5.2.1.trans hg.tape).trans S.tape
  · exact (o5.2.2.trans hg.output).trans S.output
  · rw [z5]; exact Nat.le_trans S.size hg.size
  · exact (k5 k (Nat.lt_of_lt_of_le h1 S.size) (fun e => h3 ((hDi k).2 (.inr (.inr e)))) (fun e => h3 ((hDi k).2 (.inr (.inl e))))).trans (S.block k h1 h2).1
  · exact fun e => (S.block k h1 h2).2 ((ownT.same hp).1 e)
  · intro e
    rcases (hD5 k).1 e with e | e | e
    · exact h3 ((hDi k).2 (.inl e))
    · exact h3 ((hDi k).2 (.inr (.inl e)))
    · rcases hl with hl | hl
      · exact h3 ((hDi k).2 (.inr (.inr (by rw [← hl]; exact e))))
      · have := hl k e; have := S.size; omega
end
end Go.Proofs.YtikmkalfdiiahaaGreatDoor

/-
  lift.All: its closure says what it does. Conditions: a table of terms in memory; the library's tables as its text lays them.
-/
namespace Go.Proofs.YtikmkalfdiiahaaGreatDoor
open Go.RowKit Go.Sort Go.Lib

theorem Src.own {w : World} {base n c : Nat} {t : TypeId} {a : Option Addr} {xs : List Value} (h : OwnC w base t 1 (.slice a n c) n xs) : Src w 1 a n xs := by
  refine ⟨h.1, fun hn => ?_⟩
  obtain ⟨g, cap, hv, _⟩ := h.form hn
  injection hv with h1 h2 h3
  subst h1
  exact ⟨_, rfl, fun j u hu => by rw [Addr.add_lit, Nat.zero_add]; exact h.cells rfl j u hu⟩
theorem NodeS.datM {w w' : World} {x : NodeD} {a b g : Option Addr} {c d e : Nat} (h : NodeS (DatB w) w x a c b d g e) (hk : ∀ k, DatB w k → w'.heap[k]? = w.heap[k]?) (hs : w.heap.size ≤ w'.heap.size) : NodeS (DatB w') w' x a c b d g e :=
  (h.keep (fun k _ hd => hk k hd) hs).mono fun k _ hd => hd.same (hk k hd)
def LiftPost (w0 : World) (p bt bm : Nat) (Y : Nat → Prop) (s : List Int) (R : (Int × Bool × Int) × TermD × List Int) (w : World) (e : Ending) (w' : World) : Prop :=
  e = .returned (.tuple #[.int .i64 R.1.1, .bool R.1.2.1, .int .i64 R.1.2.2]) ∧ Cx w0 p (LiftJ w0 p bt bm) (LiftD bt bm) Y R.2.1 R.2.2 w' ∧ OStep p (LiftD bt bm s w) (LiftD bt bm R.2.2 w') w w'
set_option maxRecDepth 100000 in
set_option maxHeartbeats 8000000 in
theorem lift1_any {w0 : World} (hE : EnvT w0) (p bt bm : Nat) (Y : Nat → Prop) (T : TermD) (s : List Int) (w : World) (id : Int) (n : NodeD) (a b g : Option Addr) (c d e : Nat) (h : Cx w0 p (LiftJ w0 p bt bm) (LiftD bt bm) Y T s w) (hG : TermG T) (hF : T.fresh ≤ 1000000000000) (hZ : s.length ≤ 1000000000000) (hN : NodeG n) (hn : NodeS (DatB w) w n a c b d g e) :
    Calls Tryz.prog 43 #[.int .i64 id, nodeV n a c b d g e, .pointer (some ⟨bt, 0, none⟩), .pointer (some ⟨bm, 0, none⟩)] w fun e w' => LiftPost w0 p bt bm Y s (liftF T s id n) w e w' := by
  have hE' := Lib.hid hE
  have hC := Lib.hid h
  have hG' := Lib.hid hG
  have hite := Lib.hid hN.ite
  have hdef := @Lib.hid (liftF T s id n = if n.op = 10 ∧ n.sort ≠ 0 then
    if (freshD T n.sort).1.2 = 0 then
      (((freshD T n.sort).1.1, true, (choiceD (freshD T n.sort).2 (freshD T n.sort).1.1 n.args).1.2), (choiceD (freshD T n.sort).2 (freshD T n.sort).1.1 n.args).2, s ++ (choiceD (freshD T n.sort).2 (freshD T n.sort).1.1 n.args).1.1)
    else ((0, false, (freshD T n.sort).1.2), (freshD T n.sort).2, s)
  else ((0, false, 0), T, s)) rfl
  have I0 : St w0 p { T with X := fun q => LiftD bt bm s w q ∨ Y q } w := ⟨h.t, h.b⟩
  obtain ⟨op, nm, ⟨ng, nu, de⟩, args, so⟩ := n
  dsimp only at hdef hite
  have hb0 : Below w.heap.size w (w.alloc (.cells #[.int .i64 op, .string nm, .bool ng, .slice a nu.length c, .slice b de.length d, .slice g args.length e, .int .i64 so] 37)) := (Below.refl _ _).alloc (Nat.le_refl _) _
  have hX0 := heap_alloc_new w (.cells #[.int .i64 op, .string nm, .bool ng, .slice a nu.length c, .slice b de.length d, .slice g args.length e, .int .i64 so] 37)
  have hso : okI so := hn.sort
  have N1 := hn.datM (Below.dat hb0) hb0.size
  have hD1 : ∀ k, LiftD bt bm s w k → (w.alloc (.cells #[.int .i64 op, .string nm, .bool ng, .slice a nu.length c, .slice b de.length d, .slice g args.length e, .int .i64 so] 37)).heap[k]? = w.heap[k]? := fun k hk => hb0.block k (h.j.ltD k hk).2
  have I1 := I0.more (Y := fun q => (LiftD bt bm s w q ∨ Y q) ∨ q = w.heap.size) hb0 (fun k hk => by
    rcases hk with hk | rfl
    · exact .inl hk
    · exact .inr ⟨Nat.le_refl _, by simp⟩)
  have S1 := Lib.hid (TStep.of_below h.t.plt hb0)
  have hbt := (hD1 bt (.inl rfl)).trans h.j.t
  generalize hw1 : w.alloc (.cells #[.int .i64 op, .string nm, .bool ng, .slice a nu.length c, .slice b de.length d, .slice g args.length e, .int .i64 so] 37) = w1 at *
  have r0 := cell_p hX0 0
  have r1 := cell_p hX0 1
  have r2 := cell_p hX0 2
  have r3 := cell_p hX0 3
  have r4 := cell_p hX0 4
  have r5 := cell_p hX0 5
  have r6 := cell_p hX0 6
  simp only [List.getElem?_toArray, List.getElem?_cons_succ, List.getElem?_cons_zero] at r0 r1 r2 r3 r4 r5 r6
  have qt : w1.cell? ⟨bt, 0, none⟩ = some (.pointer (some ⟨p, 0, none⟩)) := cell_p hbt 0
  have I1' := Lib.hid I1
  have N1' := Lib.hid N1
  have hD1' := Lib.hid hD1
  have hX0' := Lib.hid hX0
  have hso' := Lib.hid hso
  by_cases hop : op = 10
  case neg =>
    have hv := @Lib.hid (liftF T s id ⟨op, nm, ⟨ng, nu, de⟩, args, so⟩ = ((0, false, 0), T, s)) (by rw [hdef.out, if_neg (fun e => hop e.1)])
    have hopd : decide (op = 10) = false := decide_eq_false hop
    clear h hE hG hn hN I0 I1 N1 hD1 hX0 hb0 hbt hdef hso hite
    go_enter Tryz.func43, Tryz.ntmps43
    go_wp2
    go_ret3
    obtain ⟨z1, z2⟩ := lift_same hC.out (I1'.out.fewer (fun k hk => .inl hk)) S1.out hD1'.out
    exact ⟨by rw [hv.out]; rfl, by rw [hv.out]; exact z1, by rw [hv.out]; exact z2⟩
  subst hop
  have hl3 := @Lib.hid (args.length = 3) (hite.out rfl)
  clear hite
  by_cases hs0 : so = 0
  case pos =>
    subst hs0
    have hv := @Lib.hid (liftF T s id ⟨10, nm, ⟨ng, nu, de⟩, args, 0⟩ = ((0, false, 0), T, s)) (by rw [hdef.out, if_neg (fun e => e.2 rfl)])
    clear h hE hG hn hN I0 I1 N1 hD1 hX0 hb0 hbt hdef hso
    go_enter Tryz.func43, Tryz.ntmps43
    go_wp2
    go_ret3
    obtain ⟨z1, z2⟩ := lift_same hC.out (I1'.out.fewer (fun k hk => .inl hk)) S1.out hD1'.out
    exact ⟨by rw [hv.out]; rfl, by rw [hv.out]; exact z1, by rw [hv.out]; exact z2⟩
  case neg =>
    have hd2 := @Lib.hid (liftF T s id ⟨10, nm, ⟨ng, nu, de⟩, args, so⟩ = if (freshD T so).1.2 = 0 then
      (((freshD T so).1.1, true, (choiceD (freshD T so).2 (freshD T so).1.1 args).1.2), (choiceD (freshD T so).2 (freshD T so).1.1 args).2, s ++ (choiceD (freshD T so).2 (freshD T so).1.1 args).1.1)
      else ((0, false, (freshD T so).1.2), (freshD T so).2, s)) (by rw [hdef.out, if_pos ⟨rfl, hs0⟩])
    have hs0d : decide (so = 0) = false := decide_eq_false hs0
    have hfr := fresh_any w0.heap.size p { T with X := fun q => (LiftD bt bm s w q ∨ Y q) ∨ q = w.heap.size } so w1 I1.t (hG.ok.sm.X _) (I1.env hE) hso
    unfold FreshPost at hfr
    rw [freshD_X] at hfr
    dsimp only at hfr
    have hfr' := Lib.hid hfr
    have hGf := Lib.hid (hG.fresh so (by omega)).g
    have hbd := Lib.hid (put_bdF hG so)
    generalize freshD T so = M at *
    obtain ⟨⟨k, er⟩, T1⟩ := M
    dsimp only at hfr' hGf hbd hd2
    clear h hE hG hn hN I0 I1 N1 hD1 hX0 hb0 hbt hdef hso hfr
    go_enter Tryz.func43, Tryz.ntmps43
    go_wp2_with fail
    refine hfr'.out.mono ?_; rintro e1 w2 ⟨rfl, t2, s2⟩
    have I2 := Lib.hid (I1'.out.step t2 s2)
    have S2 := Lib.hid (S1.out.trans s2)
    have D2 := Lib.hid (show ∀ k, LiftD bt bm s w k → w2.heap[k]? = w.heap[k]? from fun k hk => (I1'.out.own (.inl (.inl hk)) s2).trans (hD1'.out k hk))
    have X2 := Lib.hid ((I1'.out.own (.inr rfl) s2).trans hX0'.out)
    have N2 := Lib.hid (N1'.out.datM (fun k hk => I1'.out.t.dat s2 hk) s2.size)
    clear t2 s2 hfr' I1' S1 hD1' hX0' N1' r0 r1 r2 r3 r4 r5 r6 qt hw1
    by_cases her : er = 0
    case neg =>
      rw [if_neg her] at hd2
      go_wp2
      go_ret3
      obtain ⟨z1, z2⟩ := lift_same hC.out (I2.out.fewer (fun k hk => .inl hk)) S2.out D2.out
      exact ⟨by rw [hd2.out]; rfl, by rw [hd2.out]; exact z1, by rw [hd2.out]; exact z2⟩
    case pos =>
      subst her
      rw [if_pos rfl] at hd2
      have hch := choice_any hE'.out p (fun q => (LiftD bt bm s w q ∨ Y q) ∨ q = w.heap.size) T1 k ⟨10, nm, ⟨ng, nu, de⟩, args, so⟩ a b g c d e w2 I2.out hGf.out hbd.out N2.out hl3.out
      dsimp only at hch
      have hgr := Lib.hid (choice_grow hGf.out k args)
      have hch' := Lib.hid hch
      generalize choiceD T1 k args = M at *
      obtain ⟨⟨l, ec⟩, T3⟩ := M
      dsimp only at hd2 hgr
      have r0 := cell_p X2.out 0
      have r1 := cell_p X2.out 1
      have r2 := cell_p X2.out 2
      have r3 := cell_p X2.out 3
      have r4 := cell_p X2.out 4
      have r5 := cell_p X2.out 5
      have r6 := cell_p X2.out 6
      simp only [List.getElem?_toArray, List.getElem?_cons_succ, List.getElem?_cons_zero] at r0 r1 r2 r3 r4 r5 r6
      have qt : w2.cell? ⟨bt, 0, none⟩ = some (.pointer (some ⟨p, 0, none⟩)) := cell_p ((D2.out bt (.inl rfl)).trans hC.out.j.t) 0
      clear hch
      go_wp2_with fail
      refine hch'.out.mono ?_; rintro e1 w3 ⟨al, cl, rfl, ol, i3, s3⟩
      have D3 := Lib.hid (show ∀ k, LiftD bt bm s w k → w3.heap[k]? = w.heap[k]? from fun k hk => (I2.out.own (.inl (.inl hk)) s3).trans (D2.out k hk))
      obtain ⟨hj3, _⟩ := hC.out.j.keep D3.out
      obtain ⟨v, hv3, ho3⟩ := hj3.m
      have I3 := Lib.hid i3
      have S3 := Lib.hid (S2.out.trans s3)
      have OL := Lib.hid ol
      have V3 := Lib.hid hv3
      have O3 := Lib.hid ho3
      obtain ⟨av, cv, rfl, hcv1, hcv2⟩ := ho3.slice
      have qm : w3.cell? ⟨bm, 0, none⟩ = some (.slice av s.length cv) := cell_p hv3 0
      have hll := hgr.out.2.1
      obtain ⟨i0, hi0, hz0, hz1, hz2⟩ := info_parts info_int
      clear i3 s3 ol hv3 ho3 hj3 hch' I2 S2 D2 X2 N2 r0 r1 r2 r3 r4 r5 r6 qt
      go_wp2_with (at_builtin; refine wpList_append_C rfl (.tmp 37) (.tmp 38) rfl Tryz.underlying33 hi0 hz0 hz1 hz2 rfl (by decide) rfl rfl O3.out (Src.own OL.out) ?c2 ?c3 ?c4 ?c5 ?_)
      case c2 => intro u hu; obtain ⟨x, _, rfl⟩ := List.mem_map.1 hu; rfl
      case c3 => unfold maxLen; omega
      case c4 => omega
      case c5 => exact Nat.le_of_lt (Array.getElem?_eq_some_iff.1 V3.out).1
      intro v' w4 ho4 hg4 hl4
      obtain ⟨av', cv', rfl, _, _⟩ := ho4.slice
      have n2 : (Value.slice av s.length cv).ownBlock ≠ some bm := fun e => ty_ne (by decide) (O3.out.ty bm e) ⟨_, _, V3.out⟩
      have V4 := (hg4.block bm (Array.getElem?_eq_some_iff.1 V3.out).1 n2.symm).trans V3.out
      have qm4 : w4.cell? ⟨bm, 0, none⟩ = some (.slice av s.length cv) := cell_p V4 0
      have fm4 : w4.frozen? ⟨bm, 0, none⟩ = false := frz_p V4 0
      have Z := Lib.hid (lift_push (l := l) (T' := T3) hC.out (I3.out.fewer (fun k hk => .inl hk)) S3.out D3.out V3.out O3.out hg4 hl4 (by rw [List.length_append, List.map_append]; exact ho4))
      clear ho4 hg4 hl4 n2 V4
      go_wp2
      go_ret3
      exact ⟨by rw [hd2.out]; rfl, by rw [hd2.out]; exact Z.out.1, by rw [hd2.out]; exact Z.out.2⟩
theorem lift_ok {w0 : World} (hE : EnvT w0) (p bt bm : Nat) : OtherOk w0 p 43 [] [.pointer (some ⟨bt, 0, none⟩), .pointer (some ⟨bm, 0, none⟩)] liftF (LiftJ w0 p bt bm) (LiftD bt bm) List.length where
  enter := enters_of Tryz.func43 (by kernel_rfl) rfl
  lt _ _ h k hk := h.ltD k hk
  keep _ _ _ h hk _ := h.keep hk
  grow T s _ id n _ h hf _ := liftF_grow T s id n h hf
  call Y T s w id n a c b d g e h hG hF hZ hN _ hn := lift1_any hE p bt bm Y T s w id n a b g c d e h hG hF hZ hN (hn.mono fun _ _ hk => hk.1)
end Go.Proofs.YtikmkalfdiiahaaGreatDoor
