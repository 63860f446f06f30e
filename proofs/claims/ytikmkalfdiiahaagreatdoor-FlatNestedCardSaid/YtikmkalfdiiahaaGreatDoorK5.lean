/-
  Parts of this claim's texts, one behind the other: YM YN YO. No condition.
-/
import Derived.Test.YtikmkalfdiiahaaGreatDoorK4
import Derived.Lib.AppendIntMem
set_option linter.unusedVariables false
set_option linter.unusedSimpArgs false
/-
  term: own. Conditions: a node that can be read, of fewer than 2^44 parts.
-/
namespace Go.Proofs.YtikmkalfdiiahaaGreatDoor
open Go.RowKit Go.Sort Go.Lib

/-- a block of data, from n on -/
def DatF (n : Nat) (w : World) (k : Nat) : Prop := DatB w k ∧ n ≤ k
theorem SlR.move {α : Type} {R : Rep α} {n : Nat} {w w' : World} {a : Option Addr} {m : Nat} {xs : List α} (h : SlR R (DatF n w) w a m xs) (hk : ∀ k, DatB w k → w'.heap[k]? = w.heap[k]?) (hs : w.heap.size ≤ w'.heap.size) : SlR R (DatF n w') w' a m xs :=
  (h.keep (fun b _ hb => hk b hb.1) hs).mono fun b _ hb => ⟨hb.1.same (hk b hb.1), hb.2⟩
theorem NodeS.move {n : Nat} {w w' : World} {x : NodeD} {a b g : Option Addr} {c d e : Nat} (h : NodeS (DatF n w) w x a c b d g e) (hk : ∀ k, DatB w k → w'.heap[k]? = w.heap[k]?) (hs : w.heap.size ≤ w'.heap.size) : NodeS (DatF n w') w' x a c b d g e :=
  ⟨h.num.move hk hs, h.nc, h.den.move hk hs, h.dc, h.args.move hk hs, h.ac, h.op, h.sort⟩
/-- the box of a node, and the box of the result -/
structure BoxN (w wr : World) (cs zs : Array Value) : Prop where
  b : Below w.heap.size w wr
  n : wr.heap[w.heap.size]? = some (.cells cs 37 (0, 0))
  r : wr.heap[w.heap.size + 1]? = some (.cells zs 37 (0, 0))
section
variable {w wr w' : World} {cs zs : Array Value}
theorem BoxN.lt (h : BoxN w wr cs zs) : w.heap.size + 1 < wr.heap.size := (Array.getElem?_eq_some_iff.1 h.r).1
theorem BoxN.all (h : BoxN w wr cs zs) (hb : Below wr.heap.size wr w') : BoxN w w' cs zs :=
  ⟨h.b.trans (hb.mono h.b.size), (hb.block _ (by have := h.lt; omega)).trans h.n, (hb.block _ h.lt).trans h.r⟩
theorem BoxN.setN (h : BoxN w wr cs zs) (i : Nat) (v : Value) : BoxN w (wr.setCell ⟨w.heap.size, i, none⟩ v) (cs.setIfInBounds i v) zs := by
  refine ⟨h.b.setCell (Nat.le_refl _) _, ?_, ?_⟩
  · unfold World.setCell
    rw [Array.getElem?_modify, if_pos rfl, h.n]
    rfl
  · rw [Below.heap_setCell _ _ _ _ (by simp)]; exact h.r
theorem BoxN.setR (h : BoxN w wr cs zs) (i : Nat) (v : Value) : BoxN w (wr.setCell ⟨w.heap.size + 1, i, none⟩ v) cs (zs.setIfInBounds i v) := by
  refine ⟨h.b.setCell (by simp) _, ?_, ?_⟩
  · rw [Below.heap_setCell _ _ _ _ (by simp)]; exact h.n
  · unfold World.setCell
    rw [Array.getElem?_modify, if_pos rfl, h.r]
    rfl
theorem BoxN.dat (h : BoxN w wr cs zs) {k : Nat} (hk : DatB wr k) : k ≠ w.heap.size ∧ k ≠ w.heap.size + 1 :=
  ⟨fun e => by subst e; exact DatB.ne hk (by decide) (by decide) ⟨_, _, h.n⟩, fun e => by subst e; exact DatB.ne hk (by decide) (by decide) ⟨_, _, h.r⟩⟩
theorem BoxN.keepN (h : BoxN w wr cs zs) (i : Nat) (v : Value) : ∀ k, DatB wr k → (wr.setCell ⟨w.heap.size, i, none⟩ v).heap[k]? = wr.heap[k]? := fun _ hk => Below.heap_setCell _ _ _ _ (fun e => (h.dat hk).1 e)
theorem BoxN.keepR (h : BoxN w wr cs zs) (i : Nat) (v : Value) : ∀ k, DatB wr k → (wr.setCell ⟨w.heap.size + 1, i, none⟩ v).heap[k]? = wr.heap[k]? := fun _ hk => Below.heap_setCell _ _ _ _ (fun e => (h.dat hk).2 e)
end
theorem Below.dat {w w' : World} (hb : Below w.heap.size w w') : ∀ k, DatB w k → w'.heap[k]? = w.heap[k]? := fun k hk => hb.block k hk.lt
theorem size_set {w : World} {p : Addr} {v : Value} : (w.setCell p v).heap.size = w.heap.size := by simp [World.setCell]
theorem OwnR.datF {w : World} {base n : Nat} {a : Option Addr} {m c : Nat} {xs : List Int} (h : OwnR Rep.u64 (fun _ => False) w base 127 (.slice a m c) xs) (hn : n ≤ base) : SlR Rep.u64 (DatF n w) w a m xs :=
  h.read (fun _ _ e => e.elim) fun k hk => by
    obtain ⟨cs, f, hc⟩ := h.ty k hk
    exact ⟨⟨cs, f, .inr hc⟩, Nat.le_trans hn (h.lt k hk).1⟩
theorem OwnRow.datF {w : World} {base n : Nat} {a : Option Addr} {m c : Nat} {xs : List Int} (h : w.ownsRow base 3 1 (.slice a m c) m (xs.map (Value.int .i64))) (hwf : WfI xs) (hn : n ≤ base) : SlR Rep.int (DatF n w) w a m xs ∧ m ≤ c ∧ c ≤ maxLen := by
  obtain ⟨_, h2, h3⟩ := own_intB (X := fun k => k < n) h hwf (fun k hk => Nat.lt_of_lt_of_le hk hn)
  exact ⟨h2.mono fun b _ hb => ⟨by obtain ⟨_, cs, f, hc⟩ := hb; exact ⟨cs, f, .inl hc⟩, Nat.le_of_not_lt hb.1⟩, h3⟩
/-- a block of uint64, from n on -/
def DatU (n : Nat) (w : World) (k : Nat) : Prop := (∃ cs f, w.heap[k]? = some (.cells cs 127 f)) ∧ n ≤ k
/-- of a node's parts: its arguments lie in a row of their own, its numbers in other blocks -/
structure ExtN (n : Nat) (w : World) (x : NodeD) (a : Option Addr) (c : Nat) (b : Option Addr) (d : Nat) (g : Option Addr) (e : Nat) : Prop where
  ow : OwnC w n 3 1 (.slice g x.args.length e) x.args.length (x.args.map (Value.int .i64))
  num : SlR Rep.u64 (DatU n w) w a x.val.num.length x.val.num
  den : SlR Rep.u64 (DatU n w) w b x.val.den.length x.val.den
theorem DatU.dat {n : Nat} {w : World} {k : Nat} (h : DatU n w k) : DatB w k := by obtain ⟨⟨cs, f, h⟩, _⟩ := h; exact ⟨cs, f, .inr h⟩
theorem DatU.same {n : Nat} {w w' : World} {k : Nat} (h : DatU n w k) (hb : w'.heap[k]? = w.heap[k]?) : DatU n w' k := by obtain ⟨⟨cs, f, h⟩, h2⟩ := h; exact ⟨⟨cs, f, by rw [hb]; exact h⟩, h2⟩
theorem SlR.moveU {n : Nat} {w w' : World} {a : Option Addr} {m : Nat} {xs : List Int} (h : SlR Rep.u64 (DatU n w) w a m xs) (hk : ∀ k, DatB w k → w'.heap[k]? = w.heap[k]?) (hs : w.heap.size ≤ w'.heap.size) : SlR Rep.u64 (DatU n w') w' a m xs :=
  (h.keep (fun b _ hb => hk b hb.dat) hs).mono fun b _ hb => hb.same (hk b hb.dat)
theorem OwnC.dat {w : World} {n s m : Nat} {v : Value} {xs : List Value} (h : OwnC w n 3 s v m xs) : ∀ k, v.ownBlock = some k → DatB w k := fun k hk => by obtain ⟨cs, f, hc⟩ := h.ty k hk; exact ⟨cs, f, .inl hc⟩
theorem ExtN.move {n : Nat} {w w' : World} {x : NodeD} {a b g : Option Addr} {c d e : Nat} (h : ExtN n w x a c b d g e) (hk : ∀ k, DatB w k → w'.heap[k]? = w.heap[k]?) (hs : w.heap.size ≤ w'.heap.size) : ExtN n w' x a c b d g e :=
  ⟨h.ow.same fun k hk' => hk k (h.ow.dat k hk'), h.num.moveU hk hs, h.den.moveU hk hs⟩
theorem OwnR.datU {w : World} {base n : Nat} {a : Option Addr} {m c : Nat} {xs : List Int} (h : OwnR Rep.u64 (fun _ => False) w base 127 (.slice a m c) xs) (hn : n ≤ base) : SlR Rep.u64 (DatU n w) w a m xs :=
  h.read (fun _ _ e => e.elim) fun k hk => by
    obtain ⟨cs, f, hc⟩ := h.ty k hk
    exact ⟨⟨cs, f, hc⟩, Nat.le_trans hn (h.lt k hk).1⟩
def OwnN2 (x : NodeD) (w : World) (e : Ending) (w' : World) : Prop :=
  ∃ a c b d g h, e = .returned (nodeV x a c b d g h) ∧ NodeS (DatF w.heap.size w') w' x a c b d g h ∧ ExtN w.heap.size w' x a c b d g h ∧ Below w.heap.size w w'
def OwnN (x : NodeD) (w : World) (e : Ending) (w' : World) : Prop :=
  ∃ a c b d g h, e = .returned (nodeV x a c b d g h) ∧ NodeS (DatF w.heap.size w') w' x a c b d g h ∧ Below w.heap.size w w'
set_option maxRecDepth 100000 in
set_option maxHeartbeats 4000000 in
theorem own2_any {S : Nat → Prop} (x : NodeD) (a b g : Option Addr) (c d e : Nat) (w : World) (hx : NodeS S w x a c b d g e) (hn1 : x.val.num.length < 17592186044416) (hn2 : x.val.den.length < 17592186044416) (hn3 : x.args.length < 17592186044416) :
    Calls Tryz.prog 45 #[nodeV x a c b d g e] w fun e w' => OwnN2 x w e w' := by
  have hx' := Lib.hid hx
  have hwf := Lib.hid (show WfI x.args from hx.args.toI.wf)
  have hop := Lib.hid hx.op
  have hso := Lib.hid hx.sort
  obtain ⟨op, nm, ⟨ng, nu, de⟩, args, so⟩ := x
  dsimp only at *
  have h0 : BoxN w ((w.alloc (.cells #[.int .i64 op, .string nm, .bool ng, .slice a nu.length c, .slice b de.length d, .slice g args.length e, .int .i64 so] 37)).alloc (.cells #[.int .i64 0, .string ByteArray.empty, .bool false, .slice none 0 0, .slice none 0 0, .slice none 0 0, .int .i64 0] 37)) _ _ := ⟨below2 w _ _, heap2a w _ _, heap2b w _ _⟩
  have h0' := Lib.hid h0
  have hc1 := Lib.hid (clone_any g args.length e args _ (hx.args.toI.below h0.b (Nat.le_refl _)) hn3)
  clear hx h0
  go_enter Tryz.func45, Tryz.ntmps45
  go_wp2_with fail
  refine hc1.out.mono ?_
  rintro e1 w1 ⟨g', e', rfl, ho, hb1⟩
  obtain ⟨hs1, hc5, hc6⟩ := OwnRow.datF (n := w.heap.size) ho hwf.out (by simp; omega)
  have X1 := Lib.hid (h0'.out.all hb1)
  have S1 := Lib.hid hs1
  have P1 := Lib.hid ((OwnC.of ho).lower (base' := w.heap.size) (by simp; omega))
  have n5 := cell_p X1.out.n 5
  have f5 := frz_p X1.out.n 5
  simp only [List.getElem?_toArray, List.getElem?_cons_succ, List.getElem?_cons_zero] at n5
  have HC5 := Lib.hid hc5
  have HC6 := Lib.hid hc6
  clear ho hb1 hs1 hc1 h0' hc5 hc6
  go_wp2
  have X2 := Lib.hid (X1.out.setN 5 (.slice g' args.length e'))
  have S2 := Lib.hid (S1.out.move (X1.out.keepN 5 _) (Nat.le_of_eq size_set.symm) (w' := w1.setCell ⟨w.heap.size, 5, none⟩ (.slice g' args.length e')))
  have P2 := Lib.hid (P1.out.same (w' := w1.setCell ⟨w.heap.size, 5, none⟩ (.slice g' args.length e')) fun k hk => X1.out.keepN 5 _ k (P1.out.dat k hk))
  generalize hW2 : w1.setCell ⟨w.heap.size, 5, none⟩ (.slice g' args.length e') = w2 at *
  have q3 : w2.cell? ⟨w.heap.size, 3, none⟩ = some (.slice a nu.length c) := cell_p X2.out.n 3
  have q4 : w2.cell? ⟨w.heap.size, 4, none⟩ = some (.slice b de.length d) := cell_p X2.out.n 4
  have hk1 := Lib.hid (fun (W : World) (hW : Below w2.heap.size w2 W) => clone64_any a nu.length c nu W (hx'.out.num.below (X2.out.b.trans (hW.mono X2.out.b.size)) (Nat.le_refl _)) hn1)
  have hk2 := Lib.hid (fun (W : World) (hW : Below w2.heap.size w2 W) => clone64_any b de.length d de W (hx'.out.den.below (X2.out.b.trans (hW.mono X2.out.b.size)) (Nat.le_refl _)) hn2)
  have hsz2 := X2.out.b.size
  clear hW2 n5 f5
  refine wp_region_tt (S := fun W => Below w2.heap.size w2 W) 10 (by kernel_rfl) (by kernel_rfl) (keep_drew w2) (fun _ => ?_)
  refine tt_take (i := 0) (v := _) (by rfl) (by decide +kernel) (by exact fun _ _ _ h => h) (Or.inl ⟨by rfl, by (intro W hSw; (try dsimp only at hSw); go_simp <;> with_reducible rfl)⟩) (by assumption) ?_
  (try simp only [Act.put, List.setIfInBounds_toArray, List.set_cons_zero, List.set_cons_succ])
  refine tt_take (i := 1) (v := _) (by rfl) (by decide +kernel) (by exact fun _ _ _ h => h) (Or.inl ⟨by rfl, by (intro W hSw; (try dsimp only at hSw); go_simp <;> with_reducible rfl)⟩) (by assumption) ?_
  (try simp only [Act.put, List.setIfInBounds_toArray, List.set_cons_zero, List.set_cons_succ])
  refine tt_take (i := 2) (v := _) (by rfl) (by decide +kernel) (by exact fun _ _ _ h => h) (Or.inl ⟨by rfl, by (intro W hSw; have hq := keep_cell hSw q3; go_simp <;> with_reducible rfl)⟩) (by assumption) ?_
  (try simp only [Act.put, List.setIfInBounds_toArray, List.set_cons_zero, List.set_cons_succ])
  refine tt_take (i := 4) (v := _) (by rfl) (by decide +kernel) (by exact fun _ _ _ h => h) (Or.inl ⟨by rfl, by (intro W hSw; (try dsimp only at hSw); go_simp <;> with_reducible rfl)⟩) (by assumption) ?_
  (try simp only [Act.put, List.setIfInBounds_toArray, List.set_cons_zero, List.set_cons_succ])
  refine tt_take (i := 5) (v := _) (by rfl) (by decide +kernel) (by exact fun _ _ _ h => h) (Or.inl ⟨by rfl, by (intro W hSw; (try dsimp only at hSw); go_simp <;> with_reducible rfl)⟩) (by assumption) ?_
  (try simp only [Act.put, List.setIfInBounds_toArray, List.set_cons_zero, List.set_cons_succ])
  refine tt_take (i := 6) (v := _) (by rfl) (by decide +kernel) (by exact fun _ _ _ h => h) (Or.inl ⟨by rfl, by (intro W hSw; have hq := keep_cell hSw q4; go_simp <;> with_reducible rfl)⟩) (by assumption) ?_
  (try simp only [Act.put, List.setIfInBounds_toArray, List.set_cons_zero, List.set_cons_succ])
  refine tt_ready (rs := [3]) (by decide +kernel) (allT_cons (by rfl) (fun K hK => ?_) allT_nil)
  go_simp
  go_at_call 79
  refine (hk1.out _ (by assumption)).mono ?_
  rintro e3 w3 ⟨a3, c3, rfl, ho3, hb3⟩
  have B3 : Below w2.heap.size w2 w3 := (keep_drew w2).trans (hb3.mono (keep_drew w2).size)
  have O3 := Lib.hid (ho3.datF (n := w.heap.size) (by exact hsz2))
  have U3 := Lib.hid (ho3.datU (n := w.heap.size) (by exact hsz2))
  have L3 := Lib.hid ho3.slice
  clear ho3 hb3
  dsimp only
  refine hK.out _ _ (by (exact B3)) (fun hHeld2 => ?_)
  clear hK K
  (try simp only [Act.put, List.setIfInBounds_toArray, List.set_cons_zero, List.set_cons_succ])
  refine tt_take (i := 8) (v := _) (by rfl) (by decide +kernel) (by exact fun _ _ _ h => h) (Or.inl ⟨by rfl, by (intro W hSw; (try dsimp only at hSw); go_simp <;> with_reducible rfl)⟩) (by assumption) ?_
  (try simp only [Act.put, List.setIfInBounds_toArray, List.set_cons_zero, List.set_cons_succ])
  refine tt_take (i := 9) (v := _) (by rfl) (by decide +kernel) (by exact fun _ _ _ h => h) (Or.inl ⟨by rfl, by (intro W hSw; (try dsimp only at hSw); go_simp <;> with_reducible rfl)⟩) (by assumption) ?_
  (try simp only [Act.put, List.setIfInBounds_toArray, List.set_cons_zero, List.set_cons_succ])
  refine tt_ready (rs := [7]) (by decide +kernel) (allT_cons (by rfl) (fun K hK => ?_) allT_nil)
  go_simp
  go_at_call 79
  refine (hk2.out _ B3).mono ?_
  rintro e4 w4 ⟨a4, c4, rfl, ho4, hb4⟩
  have B4 : Below w2.heap.size w2 w4 := B3.trans (hb4.mono B3.size)
  have O4 := Lib.hid (ho4.datF (n := w.heap.size) (Nat.le_trans hsz2 B3.size))
  have O3' := Lib.hid (O3.out.move (Below.dat hb4) hb4.size)
  have U4 := Lib.hid (ho4.datU (n := w.heap.size) (Nat.le_trans hsz2 B3.size))
  have U3' := Lib.hid (U3.out.moveU (Below.dat hb4) hb4.size)
  have L4 := Lib.hid ho4.slice
  clear ho4 hb4
  dsimp only
  refine hK.out _ _ (by (exact B4)) (fun hHeld3 => ?_)
  clear hK K
  (try simp only [Act.put, List.setIfInBounds_toArray, List.set_cons_zero, List.set_cons_succ])
  refine tt_tail (by decide +kernel) ?_
  simp only [List.drop_succ_cons, List.drop_zero]
  have X4 := Lib.hid (X2.out.all B4)
  have S4 := Lib.hid (S2.out.move (Below.dat B4) B4.size)
  have P4 := Lib.hid (P2.out.same fun k hk => Below.dat B4 k (P2.out.dat k hk))
  clear B3 B4 q3 q4
  have n0 := cell_p X4.out.n 0
  have n1 := cell_p X4.out.n 1
  have n2 := cell_p X4.out.n 2
  have n3 := cell_p X4.out.n 3
  have n4 := cell_p X4.out.n 4
  have n5 := cell_p X4.out.n 5
  have n6 := cell_p X4.out.n 6
  have r0 := cell_p X4.out.r 0
  have r1 := cell_p X4.out.r 1
  have r2 := cell_p X4.out.r 2
  have r3 := cell_p X4.out.r 3
  have r4 := cell_p X4.out.r 4
  have r5 := cell_p X4.out.r 5
  have r6 := cell_p X4.out.r 6
  have f3 := frz_p X4.out.n 3
  have f4 := frz_p X4.out.n 4
  have g0 := frz_p X4.out.r 0
  have g1 := frz_p X4.out.r 1
  have g2 := frz_p X4.out.r 2
  have g3 := frz_p X4.out.r 3
  have g4 := frz_p X4.out.r 4
  have g5 := frz_p X4.out.r 5
  have g6 := frz_p X4.out.r 6
  simp only [List.size_toArray, List.length_cons, List.length_nil, Array.getElem?_setIfInBounds, List.getElem?_toArray, List.getElem?_cons_succ, List.getElem?_cons_zero, Nat.reduceEqDiff, if_false, if_true, Nat.reduceLT, Nat.reduceAdd] at n0 n1 n2 n3 n4 n5 n6 r0 r1 r2 r3 r4 r5 r6
  go_wp2
  refine bodyPost_ret (v := nodeV ⟨op, nm, ⟨ng, nu, de⟩, args, so⟩ a3 c3 a4 c4 g' e') (by simp [results, Tryz.results45, go_sem, *]) rfl ?_
  have Y5 := X4.out.setN 3 (.slice a3 nu.length c3)
  have Y6 := Y5.setN 4 (.slice a4 de.length c4)
  have T4 : NodeS (DatF w.heap.size w4) w4 ⟨op, nm, ⟨ng, nu, de⟩, args, so⟩ a3 c3 a4 c4 g' e' := ⟨O3'.out, by obtain ⟨_, _, e, h⟩ := L3.out; cases e; exact h, O4.out, by obtain ⟨_, _, e, h⟩ := L4.out; cases e; exact h, S4.out, ⟨HC5.out, HC6.out⟩, hop.out, hso.out⟩
  have V4 : ExtN w.heap.size w4 ⟨op, nm, ⟨ng, nu, de⟩, args, so⟩ a3 c3 a4 c4 g' e' := ⟨P4.out, U3'.out, U4.out⟩
  have T5 := T4.move (X4.out.keepN 3 (.slice a3 nu.length c3)) (Nat.le_of_eq size_set.symm)
  have V5 := V4.move (X4.out.keepN 3 (.slice a3 nu.length c3)) (Nat.le_of_eq size_set.symm)
  have T6 := T5.move (Y5.keepN 4 (.slice a4 de.length c4)) (Nat.le_of_eq size_set.symm)
  have V6 := V5.move (Y5.keepN 4 (.slice a4 de.length c4)) (Nat.le_of_eq size_set.symm)
  have hR : ∀ (l : List (Nat × Value)) (W : World) (cs zs : Array Value), BoxN w W cs zs → NodeS (DatF w.heap.size W) W ⟨op, nm, ⟨ng, nu, de⟩, args, so⟩ a3 c3 a4 c4 g' e' → ExtN w.heap.size W ⟨op, nm, ⟨ng, nu, de⟩, args, so⟩ a3 c3 a4 c4 g' e' → ∃ zs', BoxN w (l.foldl (fun W iv => W.setCell ⟨w.heap.size + 1, iv.1, none⟩ iv.2) W) cs zs' ∧ NodeS (DatF w.heap.size (l.foldl (fun W iv => W.setCell ⟨w.heap.size + 1, iv.1, none⟩ iv.2) W)) (l.foldl (fun W iv => W.setCell ⟨w.heap.size + 1, iv.1, none⟩ iv.2) W) ⟨op, nm, ⟨ng, nu, de⟩, args, so⟩ a3 c3 a4 c4 g' e' ∧ ExtN w.heap.size (l.foldl (fun W iv => W.setCell ⟨w.heap.size + 1, iv.1, none⟩ iv.2) W) ⟨op, nm, ⟨ng, nu, de⟩, args, so⟩ a3 c3 a4 c4 g' e' := by
    intro l
    induction l with
    | nil => exact fun W cs zs h t v => ⟨zs, h, t, v⟩
    | cons iv l ih => exact fun W cs zs h t v => ih _ cs _ (h.setR iv.1 iv.2) (t.move (h.keepR iv.1 iv.2) (Nat.le_of_eq size_set.symm)) (v.move (h.keepR iv.1 iv.2) (Nat.le_of_eq size_set.symm))
  obtain ⟨zs', Z1, Z2, Z3⟩ := hR [(0, .int .i64 op), (1, .string nm), (2, .bool ng), (3, .slice a3 nu.length c3), (4, .slice a4 de.length c4), (5, .slice g' args.length e'), (6, .int .i64 so)] _ _ _ Y6 T6 V6
  exact ⟨a3, c3, a4, c4, g', e', rfl, Z2, Z3, Z1.b⟩
theorem own_any {S : Nat → Prop} (x : NodeD) (a b g : Option Addr) (c d e : Nat) (w : World) (hx : NodeS S w x a c b d g e) (hn1 : x.val.num.length < 17592186044416) (hn2 : x.val.den.length < 17592186044416) (hn3 : x.args.length < 17592186044416) :
    Calls Tryz.prog 45 #[nodeV x a c b d g e] w fun e w' => OwnN x w e w' :=
  (own2_any x a b g c d e w hx hn1 hn2 hn3).mono fun _ _ h => by obtain ⟨a, c, b, d, g, h, h1, h2, _, h4⟩ := h; exact ⟨a, c, b, d, g, h, h1, h2, h4⟩
end Go.Proofs.YtikmkalfdiiahaaGreatDoor

/-
  strings.Builder's WriteString, with what it leaves alone; Itoa, FormatUint (below 100) as bytes; a node's key. Conditions: a node that can be read, of at most 10^6 parts, its limbs below 100 if it is a number; the library's tables as its text lays them.
-/
namespace Go.Proofs.YtikmkalfdiiahaaGreatDoor
open Go.RowKit Go.Sort Go.Lib

theorem copyCheck2_any (B b : Nat) (bs : List Value) (w : World) (h : IsB B b bs w) :
    Calls Tryz.prog 138 #[.pointer (some ⟨b, 0, none⟩)] w fun e w' => e = .returned (.tuple #[]) ∧ (BAt B b (.pointer (some ⟨b, 0, none⟩)) bs w' ∧ Below B w w' ∧ ∀ k, k ≠ b → w'.heap[k]? = w.heap[k]?) := by
  rcases h with h | h
  · refine (copyCheck_fresh b w h.cell0 h.shape h.frozen0).mono ?_
    rintro e w' ⟨rfl, rfl⟩
    exact ⟨rfl, h.used _, (Below.refl B w).setCell (p := ⟨b, 0, none⟩) h.1 _, fun k hk => Below.heap_setCell _ _ _ _ (fun e => hk e)⟩
  · refine (copyCheck_used b w h.cell0).mono ?_
    rintro e w' ⟨rfl, rfl⟩
    exact ⟨rfl, h, Below.refl B _, fun _ _ => rfl⟩
/-- nothing but builders and bytes has turned -/
def Aside8 (w w' : World) : Prop := ∀ (k : Nat) (cs : Array Value) (t : TypeId) (f : Nat × Nat), w.heap[k]? = some (Obj.cells cs t f) → t ≠ 148 → t ≠ 5 → w'.heap[k]? = w.heap[k]?
set_option maxHeartbeats 2000000 in
set_option maxRecDepth 100000 in
theorem write2_any (B b : Nat) (bs : List Value) (s : ByteArray) (w : World) (h : IsB B b bs w) (hlen : bs.length + s.size ≤ 140737488355328) (hBw : B ≤ w.heap.size) :
    Calls Tryz.prog 102 #[.pointer (some ⟨b, 0, none⟩), .string s] w fun e w' => e = .returned (.tuple #[.int .i64 s.size, .nilIface]) ∧ (BAt B b (.pointer (some ⟨b, 0, none⟩)) (bs ++ Lib.strCells s) w' ∧ Below B w w' ∧ Aside8 w w') := by
  obtain ⟨i0, hi, hz0, hz1, hz2⟩ := info_parts info_u8
  go_enter Tryz.func102, Tryz.ntmps102
  go_wp2_with fail
  refine (copyCheck2_any B b bs _ h).mono ?_
  rintro e w1 ⟨rfl, h1, hb1, hk1⟩
  obtain ⟨hB, v, hbk, hown, hne⟩ := h1
  have c0 : w1.cell? ⟨b, 0, none⟩ = some (.pointer (some ⟨b, 0, none⟩)) := by rw [Lib.cell_of_heap hbk]; rfl
  have c1 : w1.cell? ⟨b, 1, none⟩ = some v := by rw [Lib.cell_of_heap hbk]; rfl
  go_wp2_with (at_builtin; refine Lib.wpList_append_own_string _ rfl _ _ 146 9 rfl B 5 i0 Tryz.underlying146 Tryz.underlying9 hi hz0 hz1 hz2 _ _ _ rfl hown s rfl ?c3 ?c4 ?c5 ?_)
  case c3 => unfold maxLen; omega
  case c4 => omega
  case c5 => have := hb1.size; omega
  intro v' w2 hown' hgrow _
  have hlt : b < w1.heap.size := by
    rcases Nat.lt_or_ge b w1.heap.size with h' | h'
    · exact h'
    · simp [Array.getElem?_eq_none h'] at hbk
  have hb2 : w2.heap[b]? = some (.cells #[.pointer (some ⟨b, 0, none⟩), v] 148 (0, 0)) := by
    rw [hgrow.block b hlt (fun e => hne e.symm)]
    exact hbk
  have d0 : w2.cell? ⟨b, 0, none⟩ = some (.pointer (some ⟨b, 0, none⟩)) := by rw [Lib.cell_of_heap hb2]; rfl
  have d1 : w2.cell? ⟨b, 1, none⟩ = some v := by rw [Lib.cell_of_heap hb2]; rfl
  have f1 : w2.frozen? ⟨b, 1, none⟩ = false := Lib.frozen_of_heap hb2 1
  obtain ⟨ao, n', cap, rfl⟩ : ∃ ao n' cap, v' = .slice ao n' cap := by
    rcases hown'.2 with ⟨hv, _⟩ | ⟨g, cap, cur, hv, _⟩
    · exact ⟨_, _, _, hv⟩
    · exact ⟨_, _, _, hv⟩
  go_wp2
  go_ret2
  refine ⟨rfl, ?_, ?_, fun k cs t f hc n1 n2 => ?_⟩
  · exact Lib.BuilderAt.put (T := 148) (e := 5) hB hb2 (bs' := bs ++ Lib.strCells s) (by simpa [Lib.strCells_length] using hown') (by decide)
  · exact (hb1.grown hgrow (by have := hb1.size; omega) (fun k hk => (hown.lt k hk).1)).setCell (p := ⟨b, 1, none⟩) hB _
  · have hkb : k ≠ b := fun e => by
      subst e
      obtain ⟨q, v0, hbk0⟩ : ∃ p v, w.heap[k]? = some (.cells #[p, v] 148 (0, 0)) := by
        rcases h with h | h
        · obtain ⟨_, v, hb, _⟩ := h; exact ⟨_, v, hb⟩
        · obtain ⟨_, v, hb, _⟩ := h; exact ⟨_, v, hb⟩
      have e := hbk0.symm.trans hc
      injection e with e
      injection e with _ e2
      exact n1 e2.symm
    have e1 := hk1 k hkb
    have hlk : k < w1.heap.size := by
      rw [hc] at e1
      exact (Array.getElem?_eq_some_iff.1 e1).1
    rw [Below.heap_setCell _ _ _ _ (fun e => hkb e), hgrow.block k hlk (fun e => ?_), e1]
    exact Lib.ownBlock_ne hown (e1.trans hc) n2 e.symm

def itoaB (n : Int) : ByteArray := ⟨(Lib.itoa n).toArray⟩
theorem itoa_any (n : Int) (hn : okI n) (w : World) (hE : EnvT w) : Calls Tryz.prog 53 #[.int .i64 n] w fun e w' => e = .returned (.string (itoaB n)) ∧ Below w.heap.size w w' := by
  refine (Tryz.strconv_Itoa n hn.1 hn.2 w hE.pow).mono ?_
  rintro e w' ⟨rfl, k, os, rfl⟩
  exact ⟨rfl, Lib.below_grow _ w (Nat.le_refl _) k os⟩
theorem quote_any (s : ByteArray) (hs : s.size ≤ 1000000) (w : World) (hE : EnvT w) : Calls Tryz.prog 103 #[.string s] w fun e w' => e = .returned (.string (strOfNums (Lib.quoteZ Lib.goPrintTabs s))) ∧ Below w.heap.size w w' :=
  Tryz.strconv_Quote Lib.goPrintTabs s w (by omega) hE.prt hE.utf
set_option maxHeartbeats 400000 in
theorem fmt_in (n : Nat) (hn : n < 100) (w : World) : Calls Tryz.prog 141 #[.int .u64 n, .int .i64 10] w fun e w' => e = .returned (.string (itoaB n)) ∧ w' = w := by
  have hni : (n : Int) < 100 := by omega
  have hi := Lib.hid (Tryz.internal_strconv_small n hn w)
  have he := @Lib.hid (itoaB n = ⟨(Lib.decDigits n).toArray⟩) (by unfold itoaB Lib.itoa; rw [if_neg (by omega)]; simp)
  go_enter Tryz.func141, Tryz.ntmps141
  go_wp2_with fail
  refine hi.out.mono ?_; rintro e w' ⟨rfl, rfl⟩
  go_wp2
  go_ret
  exact ⟨by rw [he.out]; rfl, rfl⟩
set_option maxHeartbeats 400000 in
theorem fmt_any (n : Nat) (hn : n < 100) (w : World) : Calls Tryz.prog 105 #[.int .u64 n, .int .i64 10] w fun e w' => e = .returned (.string (itoaB n)) ∧ w' = w := by
  have hi := Lib.hid (fmt_in n hn w)
  go_enter Tryz.func105, Tryz.ntmps105
  go_wp2_with fail
  refine hi.out.mono ?_; rintro e w' ⟨rfl, rfl⟩
  go_wp2
  go_ret
  exact ⟨rfl, rfl⟩
end Go.Proofs.YtikmkalfdiiahaaGreatDoor

/-
  term: key. Conditions: a node that can be read, of at most 10^6 parts, its limbs below 100 if it is a number; the library's tables as its text lays them.
-/
namespace Go.Proofs.YtikmkalfdiiahaaGreatDoor
open Go.RowKit Go.Sort Go.Lib

/-- the box of the node and the text so far -/
structure KeyAt (w wr : World) (cs : Array Value) (l : List UInt8) : Prop where
  b : Below w.heap.size w wr
  n : wr.heap[w.heap.size]? = some (.cells cs 37 (0, 0))
  k : IsB w.heap.size (w.heap.size + 1) (Lib.byteCells l) wr
section
variable {w wr w' : World} {cs : Array Value} {l : List UInt8}
theorem BAt.all {B b : Nat} {p : Value} {bs : List Value} (h : BAt B b p bs wr) (hb : Below wr.heap.size wr w') : BAt B b p bs w' := by
  obtain ⟨hB, v, h1, h2, h3⟩ := h
  refine ⟨hB, v, (hb.block b (Array.getElem?_eq_some_iff.1 h1).1).trans h1, ⟨h2.1, h2.2.imp id fun ⟨g, cap, cur, q1, q2, q3, q4⟩ => ⟨g, cap, cur, q1, q2, (hb.block g (Array.getElem?_eq_some_iff.1 q3).1).trans q3, q4⟩⟩, h3⟩
theorem KeyAt.all (h : KeyAt w wr cs l) (hb : Below wr.heap.size wr w') : KeyAt w w' cs l :=
  ⟨h.b.trans (hb.mono h.b.size), (hb.block _ (Array.getElem?_eq_some_iff.1 h.n).1).trans h.n, h.k.imp (fun h => BAt.all h hb) (fun h => BAt.all h hb)⟩
theorem KeyAt.start (w : World) (cs : Array Value) : KeyAt w ((w.alloc (.cells cs 37)).alloc (.cells #[.pointer none, .slice none 0 0] 148)) cs [] :=
  ⟨below2 w _ _, heap2a w _ _, .inl ⟨Nat.le_succ _, .slice none 0 0, heap2b w _ _, World.ownsRow_nil _ _ _ _, by simp [Value.ownBlock]⟩⟩
theorem kwrite (s : ByteArray) (h : KeyAt w wr cs l) (hl : l.length ≤ 100000000) (hs : s.size ≤ 100000000) : Calls Tryz.prog 102 #[.pointer (some ⟨w.heap.size + 1, 0, none⟩), .string s] wr fun e w' => e = .returned (.tuple #[.int .i64 s.size, .nilIface]) ∧ KeyAt w w' cs (l ++ s.data.toList) ∧ Aside8 wr w' := by
  refine (write2_any w.heap.size (w.heap.size + 1) (Lib.byteCells l) s wr h.k (by simp [Lib.byteCells]; omega) h.b.size).mono ?_
  rintro e w' ⟨rfl, h1, h2, h3⟩
  refine ⟨rfl, ⟨h.b.trans h2, h3 _ _ _ _ h.n (by decide) (by decide) |>.trans h.n, .inr ?_⟩, h3⟩
  have : Lib.byteCells (l ++ s.data.toList) = Lib.byteCells l ++ Lib.strCells s := by simp [Lib.byteCells, Lib.strCells]
  rw [this]; exact h1
end
theorem ktext {a b : List UInt8} : (ByteArray.mk a.toArray ++ ByteArray.mk b.toArray).data.toList = a ++ b := by simp
theorem size_data (s : ByteArray) : s.size = s.data.toList.length := by simp
theorem itoaL_le {n : Int} (h : okI n) : (Lib.itoa n).length ≤ 21 := Lib.itoa_length_le n h.1 h.2
theorem quoteL_le (s : ByteArray) : (quoteL s).length ≤ 10 * s.size + 2 := by
  unfold quoteL
  rw [← size_data, strOfNums_size]
  exact Lib.quoteZ_length_le _ s
theorem argsL_succ {xs : List Int} {k : Nat} (hk : k < xs.length) : argsL (xs.take (k + 1)) = argsL (xs.take k) ++ (32 :: Lib.itoa (nth xs k)) := by
  unfold argsL
  rw [List.take_succ_eq_append_getElem hk, List.flatMap_append, nth_eq hk]; simp
theorem limbsL_succ {xs : List Int} {k : Nat} (hk : k < xs.length) : limbsL (xs.take (k + 1)) = limbsL (xs.take k) ++ (Lib.itoa (nth xs k) ++ [44]) := by
  unfold limbsL
  rw [List.take_succ_eq_append_getElem hk, List.flatMap_append, nth_eq hk]; simp
theorem argsL_le {xs : List Int} (h : ∀ x ∈ xs, okI x) : (argsL xs).length ≤ 22 * xs.length := by
  induction xs with
  | nil => simp [argsL]
  | cons x xs ih =>
    have h1 := itoaL_le (h x (by simp))
    have h2 := ih fun y hy => h y (by simp [hy])
    unfold argsL at *
    rw [List.flatMap_cons, List.length_append, List.length_cons, List.length_cons]
    omega
theorem limbsL_le {xs : List Int} (h : ∀ x ∈ xs, okI x) : (limbsL xs).length ≤ 22 * xs.length := by
  induction xs with
  | nil => simp [limbsL]
  | cons x xs ih =>
    have h1 := itoaL_le (h x (by simp))
    have h2 := ih fun y hy => h y (by simp [hy])
    unfold limbsL at *
    simp only [List.flatMap_cons, List.length_append, List.length_cons, List.length_nil]
    omega
theorem headL_le {x : NodeD} (h1 : okI x.op) (h2 : okI x.sort) (h3 : x.name.size ≤ 1000000) : (headL x).length ≤ 10000100 := by
  have := itoaL_le h1
  have := itoaL_le h2
  have := quoteL_le x.name
  unfold headL
  simp only [List.length_append, List.length_cons]
  omega
def lowU (xs : List Int) : Prop := ∀ x ∈ xs, 0 ≤ x ∧ x < 100
theorem lowU.ok {xs : List Int} (h : lowU xs) : ∀ x ∈ xs, okI x := fun x hx => by have := h x hx; unfold okI; omega
/-- what is asked of a node whose key is told -/
structure KeyOk (x : NodeD) : Prop where
  name : x.name.size ≤ 1000000
  num : x.val.num.length ≤ 1000000
  den : x.val.den.length ≤ 1000000
  args : x.args.length ≤ 1000000
  low : x.op = 11 → lowU x.val.num ∧ lowU x.val.den
/-- the text behind k of the two rows of limbs -/
def outTo (l : List UInt8) (nu de : List Int) : Nat → List UInt8
  | 0 => l
  | 1 => l ++ 47 :: limbsL nu
  | _ => (l ++ 47 :: limbsL nu) ++ 47 :: limbsL de
set_option maxRecDepth 100000 in
set_option maxHeartbeats 4000000 in
theorem key_any {S : Nat → Prop} (x : NodeD) (a b g : Option Addr) (c d e : Nat) (w : World) (hx : NodeS S w x a c b d g e) (hk : KeyOk x) (hE : EnvT w) :
    Calls Tryz.prog 75 #[nodeV x a c b d g e] w fun e w' => e = .returned (.string (keyB x)) ∧ Below w.heap.size w w' := by
  have hx' := Lib.hid hx
  have hE' := Lib.hid hE
  have hk' := Lib.hid hk
  have hra := Lib.hid hx.args.toI
  have hop := Lib.hid hx.op
  have hso := Lib.hid hx.sort
  have hhd := Lib.hid (headL_le hx.op hx.sort hk.name)
  have hdh := @Lib.hid (headL x = Lib.itoa x.op ++ 32 :: (Lib.itoa x.sort ++ 32 :: quoteL x.name)) rfl
  have hky := @Lib.hid (keyL x = headL x ++ (argsL x.args ++ numL x)) rfl
  have hnl := @Lib.hid (numL x = if x.op = 11 then 32 :: (Lib.formatBool x.val.neg ++ 47 :: (limbsL x.val.num ++ 47 :: limbsL x.val.den)) else []) rfl
  have hkb := @Lib.hid (keyB x = ⟨(keyL x).toArray⟩) rfl
  have hla := hk.args
  obtain ⟨op, nm, ⟨ng, nu, de⟩, args, so⟩ := x
  dsimp only at *
  generalize hH : headL ⟨op, nm, ⟨ng, nu, de⟩, args, so⟩ = H at *
  generalize hN : numL ⟨op, nm, ⟨ng, nu, de⟩, args, so⟩ = N at *
  generalize hKL : keyL ⟨op, nm, ⟨ng, nu, de⟩, args, so⟩ = KL at *
  generalize hKB : keyB ⟨op, nm, ⟨ng, nu, de⟩, args, so⟩ = KB at *
  clear hH hN hKL hKB
  have h0 := KeyAt.start w #[.int .i64 op, .string nm, .bool ng, .slice a nu.length c, .slice b de.length d, .slice g args.length e, .int .i64 so]
  have h0' := Lib.hid h0
  have q0 := cell_p h0.n 0
  have q4 := cell_p h0.n 6
  have q1 := cell_p h0.n 1
  simp only [List.getElem?_toArray, List.getElem?_cons_succ, List.getElem?_cons_zero] at q0 q4 q1
  clear hx hk hE h0
  go_enter Tryz.func75, Tryz.ntmps75
  go_wp2_with fail
  generalize hW0 : (w.alloc (.cells #[.int .i64 op, .string nm, .bool ng, .slice a nu.length c, .slice b de.length d, .slice g args.length e, .int .i64 so] 37)).alloc (.cells #[.pointer none, .slice none 0 0] 148) = w0 at *
  clear hW0
  have hit := Lib.hid (fun (n : Int) (hn : okI n) (W : World) (hW : Below w0.heap.size w0 W) => itoa_any n hn W (hE'.out.all (h0'.out.b.trans (hW.mono h0'.out.b.size))))
  have hqt := Lib.hid (fun (W : World) (hW : Below w0.heap.size w0 W) => quote_any nm hk'.out.name W (hE'.out.all (h0'.out.b.trans (hW.mono h0'.out.b.size))))
  have zo : (itoaB op).size ≤ 21 := by rw [size_data]; exact itoaL_le hop.out
  have zs : (itoaB so).size ≤ 21 := by rw [size_data]; exact itoaL_le hso.out
  have zq : (strOfNums (Lib.quoteZ Lib.goPrintTabs nm)).size ≤ 10000002 := by rw [size_data]; have h1 := quoteL_le nm; have h2 := hk'.out.name; dsimp only at h2; unfold quoteL at h1; omega
  refine wp_region_tt (S := fun W => Below w0.heap.size w0 W) 13 (by kernel_rfl) (by kernel_rfl) (keep_drew w0) (fun _ => ?_)
  refine tt_take (i := 0) (v := _) (by rfl) (by decide +kernel) (by exact fun _ _ _ h => h) (Or.inl ⟨by rfl, by (intro W hSw; (try dsimp only at hSw); go_simp <;> with_reducible rfl)⟩) (by assumption) ?_
  (try simp only [Act.put, List.setIfInBounds_toArray, List.set_cons_zero, List.set_cons_succ])
  refine tt_take (i := 1) (v := _) (by rfl) (by decide +kernel) (by exact fun _ _ _ h => h) (Or.inl ⟨by rfl, by (intro W hSw; have hq := keep_cell hSw q0; go_simp <;> with_reducible rfl)⟩) (by assumption) ?_
  (try simp only [Act.put, List.setIfInBounds_toArray, List.set_cons_zero, List.set_cons_succ])
  refine tt_take (i := 4) (v := _) (by rfl) (by decide +kernel) (by exact fun _ _ _ h => h) (Or.inl ⟨by rfl, by (intro W hSw; (try dsimp only at hSw); go_simp <;> with_reducible rfl)⟩) (by assumption) ?_
  (try simp only [Act.put, List.setIfInBounds_toArray, List.set_cons_zero, List.set_cons_succ])
  refine tt_take (i := 5) (v := _) (by rfl) (by decide +kernel) (by exact fun _ _ _ h => h) (Or.inl ⟨by rfl, by (intro W hSw; have hq := keep_cell hSw q4; go_simp <;> with_reducible rfl)⟩) (by assumption) ?_
  (try simp only [Act.put, List.setIfInBounds_toArray, List.set_cons_zero, List.set_cons_succ])
  refine tt_take (i := 9) (v := _) (by rfl) (by decide +kernel) (by exact fun _ _ _ h => h) (Or.inl ⟨by rfl, by (intro W hSw; (try dsimp only at hSw); go_simp <;> with_reducible rfl)⟩) (by assumption) ?_
  (try simp only [Act.put, List.setIfInBounds_toArray, List.set_cons_zero, List.set_cons_succ])
  refine tt_take (i := 10) (v := _) (by rfl) (by decide +kernel) (by exact fun _ _ _ h => h) (Or.inl ⟨by rfl, by (intro W hSw; have hq := keep_cell hSw q1; go_simp <;> with_reducible rfl)⟩) (by assumption) ?_
  (try simp only [Act.put, List.setIfInBounds_toArray, List.set_cons_zero, List.set_cons_succ])
  refine tt_ready (rs := [2]) (by decide +kernel) (allT_cons (by rfl) (fun K hK => ?_) allT_nil)
  go_simp
  go_at_call 53
  refine (hit.out op hop.out _ (by assumption)).mono ?_
  rintro e3 w3 ⟨rfl, hb3⟩
  have B3 : Below w0.heap.size w0 w3 := (keep_drew w0).trans (hb3.mono (keep_drew w0).size)
  clear hb3
  dsimp only
  refine hK.out _ _ (by (exact B3)) (fun hHeld2 => ?_)
  clear hK K
  (try simp only [Act.put, List.setIfInBounds_toArray, List.set_cons_zero, List.set_cons_succ])
  refine tt_take (i := 3) (v := _) (by rfl) (by decide +kernel) (by exact fun _ _ _ h => h) (Or.inl ⟨by rfl, by (intro W hSw; have hz : ¬ 9223372036854775807 < (itoaB op).size + 1 := (by omega); go_simp <;> with_reducible rfl)⟩) (by assumption) ?_
  (try simp only [Act.put, List.setIfInBounds_toArray, List.set_cons_zero, List.set_cons_succ])
  refine tt_ready (rs := [6]) (by decide +kernel) (allT_cons (by rfl) (fun K hK => ?_) allT_nil)
  go_simp
  go_at_call 53
  refine (hit.out so hso.out _ B3).mono ?_
  rintro e4 w4 ⟨rfl, hb4⟩
  have B4 : Below w0.heap.size w0 w4 := B3.trans (hb4.mono B3.size)
  clear hb4
  dsimp only
  refine hK.out _ _ (by (exact B4)) (fun hHeld3 => ?_)
  clear hK K
  (try simp only [Act.put, List.setIfInBounds_toArray, List.set_cons_zero, List.set_cons_succ])
  refine tt_take (i := 7) (v := _) (by rfl) (by decide +kernel) (by exact fun _ _ _ h => h) (Or.inl ⟨by rfl, by (intro W hSw; have hz : ¬ 9223372036854775807 < (itoaB op).size + 1 + (itoaB so).size := (by omega); go_simp <;> with_reducible rfl)⟩) (by assumption) ?_
  (try simp only [Act.put, List.setIfInBounds_toArray, List.set_cons_zero, List.set_cons_succ])
  refine tt_take (i := 8) (v := _) (by rfl) (by decide +kernel) (by exact fun _ _ _ h => h) (Or.inl ⟨by rfl, by (intro W hSw; have hz : ¬ 9223372036854775807 < (itoaB op).size + 1 + (itoaB so).size + 1 := (by omega); go_simp <;> with_reducible rfl)⟩) (by assumption) ?_
  (try simp only [Act.put, List.setIfInBounds_toArray, List.set_cons_zero, List.set_cons_succ])
  refine tt_ready (rs := [11]) (by decide +kernel) (allT_cons (by rfl) (fun K hK => ?_) allT_nil)
  go_simp
  go_at_call 103
  refine (hqt.out _ B4).mono ?_
  rintro e5 w5 ⟨rfl, hb5⟩
  have B5 : Below w0.heap.size w0 w5 := B4.trans (hb5.mono B4.size)
  clear hb5
  dsimp only
  refine hK.out _ _ (by (exact B5)) (fun hHeld4 => ?_)
  clear hK K
  (try simp only [Act.put, List.setIfInBounds_toArray, List.set_cons_zero, List.set_cons_succ])
  refine tt_take (i := 12) (v := _) (by rfl) (by decide +kernel) (by exact fun _ _ _ h => h) (Or.inl ⟨by rfl, by (intro W hSw; have hz : ¬ 9223372036854775807 < (itoaB op).size + 1 + (itoaB so).size + 1 + (strOfNums (Lib.quoteZ Lib.goPrintTabs nm)).size := (by omega); go_simp <;> with_reducible rfl)⟩) (by assumption) ?_
  (try simp only [Act.put, List.setIfInBounds_toArray, List.set_cons_zero, List.set_cons_succ])
  refine tt_tail (by decide +kernel) ?_
  simp only [List.drop_succ_cons, List.drop_zero]
  have K5 := Lib.hid (h0'.out.all B5)
  clear B3 B4 B5 q0 q1 q4
  generalize hs0 : itoaB op ++ { data := #[32] } ++ itoaB so ++ { data := #[32] } ++ strOfNums (Lib.quoteZ Lib.goPrintTabs nm) = s0 at *
  have hs1 : s0.data.toList = H := by rw [← hs0, hdh.out]; simp [itoaB, quoteL]
  have hs2 : s0.size ≤ 10000100 := by rw [size_data, hs1]; exact hhd.out
  clear hs0 zo zs zq
  go_wp2_with fail
  refine (kwrite s0 K5.out (by simp) (by omega)).mono ?_; rintro e1 w6 ⟨rfl, k6, _⟩
  rw [List.nil_append, hs1] at k6
  have K6 := Lib.hid k6
  have n5 := cell_p k6.n 5
  simp only [List.getElem?_toArray, List.getElem?_cons_succ, List.getElem?_cons_zero] at n5
  clear k6 hs1 hs2 K5
  go_wp2
  go_loopw [5, 27] (fun _ i wr => ∃ k : Nat, k ≤ args.length ∧ i = .int .i64 k ∧ Hid (KeyAt w wr #[.int .i64 op, .string nm, .bool ng, .slice a nu.length c, .slice b de.length d, .slice g args.length e, .int .i64 so] (H ++ argsL (args.take k)))) (fun _ i _ => args.length - (intOf i).toNat)
  case atStart => exact ⟨0, Nat.zero_le _, rfl, by have h6 := K6.out; rw [← List.append_nil H] at h6; exact h6⟩
  case round =>
    obtain ⟨k, hk, rfl, hK⟩ := hrel
    have hlen : (H ++ argsL (args.take k)).length ≤ 32000200 := by
      have h1 := argsL_le (xs := args.take k) (fun x hx => hra.out.wf x (List.mem_of_mem_take hx))
      have h2 := hhd.out
      rw [List.length_append]
      rw [List.length_take] at h1
      omega
    have hlen' := Lib.hid hlen
    clear hlen
    by_cases hlt : k < args.length
    · obtain ⟨b2, o2, rfl, k0⟩ := (hra.out.below hK.out.b (Nat.le_refl _)).at k hlt
      have hxo : okI (nth args k) := hra.out.wf _ (nth_mem hlt)
      have hit2 := Lib.hid (itoa_any (nth args k) hxo wr (hE'.out.all hK.out.b))
      have hsucc := Lib.hid (argsL_succ hlt)
      have zx : (itoaB (nth args k)).size ≤ 21 := by rw [size_data]; exact itoaL_le hxo
      have zd := @Lib.hid ((itoaB (nth args k)).data.toList = Lib.itoa (nth args k)) (by simp [itoaB])
      clear hxo
      generalize nth args k = y at *
      have hz : ¬ 9223372036854775807 < 1 + (itoaB y).size := by omega
      go_wp2_with fail
      refine hit2.out.mono ?_; rintro e1 w7 ⟨rfl, hb7⟩
      have K7 := Lib.hid (hK.out.all hb7)
      clear hb7
      go_wp2_with fail
      refine (kwrite (ByteArray.mk #[32] ++ itoaB y) K7.out (by have := hlen'.out; omega) (by rw [ByteArray.size_append]; have : (ByteArray.mk #[32]).size = 1 := rfl; omega)).mono ?_; rintro e1 w8 ⟨rfl, k8, _⟩
      have K8 := Lib.hid k8
      clear k8
      go_wp2
      go_roundw
      case rel =>
        refine ⟨k + 1, by omega, by go_num, ?_⟩
        rw [hsucc.out]
        have := K8.out
        rw [ByteArray.data_append, Array.toList_append, zd.out, List.append_assoc] at this
        exact this
      case measure => simp [intOf]; omega
    · have hkn : args.take k = args := List.take_of_length_le (by omega)
      rw [hkn] at hK hlen'
      clear hkn
      have n0 := cell_p hK.out.n 0
      have n2 := cell_p hK.out.n 2
      have n3 := cell_p hK.out.n 3
      have n4 := cell_p hK.out.n 4
      simp only [List.getElem?_toArray, List.getElem?_cons_succ, List.getElem?_cons_zero] at n0 n2 n3 n4
      by_cases h11 : op = 11
      case neg =>
        have hv := @Lib.hid (KB = ⟨(H ++ argsL args).toArray⟩) (by rw [hkb.out, hky.out, hnl.out, if_neg h11, List.append_nil])
        go_wp2_with fail
        refine (Tryz.Builder_String_any w.heap.size (w.heap.size + 1) _ wr hK.out.k hK.out.b.size).mono ?_; rintro e1 w9 ⟨rfl, hb9⟩
        have B9 := Lib.hid (hK.out.b.trans hb9)
        clear hb9
        go_wp2
        go_ret
        exact ⟨by rw [hv.out]; rfl, B9.out⟩
      case pos =>
        subst h11
        have hv := @Lib.hid (KB = ⟨(H ++ (argsL args ++ 32 :: (Lib.formatBool ng ++ 47 :: (limbsL nu ++ 47 :: limbsL de)))).toArray⟩) (by rw [hkb.out, hky.out, hnl.out, if_pos rfl])
        have hfb := Lib.hid (Tryz.strconv_FormatBool ng wr)
        have zb : (ByteArray.mk (Lib.formatBool ng).toArray).size ≤ 5 := by cases ng <;> decide
        have zbd := @Lib.hid ((ByteArray.mk (Lib.formatBool ng).toArray).data.toList = Lib.formatBool ng) (by simp)
        generalize hsb : ByteArray.mk (Lib.formatBool ng).toArray = sb at *
        have hz : ¬ 9223372036854775807 < 1 + sb.size := by omega
        clear hsb
        go_wp2_with fail
        refine hfb.out.mono ?_; rintro e1 w7 ⟨rfl, rfl⟩
        go_wp2_with fail
        refine (kwrite (ByteArray.mk #[32] ++ sb) hK.out (by have := hlen'.out; omega) (by rw [ByteArray.size_append]; have : (ByteArray.mk #[32]).size = 1 := rfl; omega)).mono ?_; rintro e1 w8 ⟨rfl, k8, _⟩
        have hL : (H ++ argsL args ++ (ByteArray.mk #[32] ++ sb).data.toList).length ≤ 32000210 := by
          have h1 := hlen'.out
          have h2 : (ByteArray.mk #[32] ++ sb).data.toList.length ≤ 6 := by rw [← size_data, ByteArray.size_append]; have : (ByteArray.mk #[32]).size = 1 := rfl; omega
          rw [List.length_append]
          omega
        have hLt := @Lib.hid (H ++ argsL args ++ (ByteArray.mk #[32] ++ sb).data.toList = H ++ (argsL args ++ 32 :: Lib.formatBool ng)) (by rw [ByteArray.data_append, Array.toList_append, zbd.out, List.append_assoc]; rfl)
        generalize H ++ argsL args ++ (ByteArray.mk #[32] ++ sb).data.toList = L at *
        have K8 := Lib.hid (k8.all ((Below.refl _ _).alloc (Nat.le_refl _) (.cells #[.slice a nu.length c, .slice b de.length d] 30)))
        have G8 := Lib.hid (heap_alloc_new w8 (.cells #[.slice a nu.length c, .slice b de.length d] 30))
        have n3 := cell_p k8.n 3
        have n4 := cell_p k8.n 4
        simp only [List.getElem?_toArray, List.getElem?_cons_succ, List.getElem?_cons_zero] at n3 n4
        have hL' := Lib.hid hL
        clear k8 hL hK hfb hlen' zb hz hit hqt
        go_wp2
        go_loopw [53] (fun i wr => ∃ k : Nat, k ≤ 2 ∧ i = .int .i64 k ∧ Hid (KeyAt w wr #[.int .i64 11, .string nm, .bool ng, .slice a nu.length c, .slice b de.length d, .slice g args.length e, .int .i64 so] (outTo L nu de k)) ∧ Hid (wr.heap[w8.heap.size]? = some (.cells #[.slice a nu.length c, .slice b de.length d] 30 (0, 0)))) (fun i _ => 2 - (intOf i).toNat)
        case atStart => exact ⟨0, by omega, rfl, K8.out, G8.out⟩
        case round =>
          obtain ⟨k, hk, rfl, hK, hG⟩ := hrel
          by_cases hlt : k < 2
          · obtain ⟨ad, cap, xs, hcell, hread, hlow, hxl, hout, hol⟩ : ∃ (ad : Option Addr) (cap : Nat) (xs : List Int), wr.cell? ⟨w8.heap.size, k, none⟩ = some (.slice ad xs.length cap) ∧ SlR Rep.u64 S w ad xs.length xs ∧ lowU xs ∧ xs.length ≤ 1000000 ∧ outTo L nu de (k + 1) = outTo L nu de k ++ 47 :: limbsL xs ∧ (outTo L nu de k).length ≤ 54000300 := by
              have hlo := hk'.out.low rfl
              have g1 := hk'.out.num
              have g2 := hk'.out.den
              have g3 := limbsL_le hlo.1.ok
              dsimp only at hlo g1 g2 g3
              have g4 := hL'.out
              match k, hlt with
              | 0, _ => exact ⟨a, c, nu, cell_p hG.out 0, hx'.out.num, hlo.1, g1, rfl, by show L.length ≤ _; omega⟩
              | 1, _ => exact ⟨b, d, de, cell_p hG.out 1, hx'.out.den, hlo.2, g2, rfl, by show (L ++ 47 :: limbsL nu).length ≤ _; rw [List.length_append, List.length_cons]; omega⟩
            have hki : (k : Int) < 2 := by omega
            have hout' := Lib.hid hout
            have hread' := Lib.hid hread
            have hlow' := Lib.hid hlow
            clear hout hread hlow
            generalize hO1 : outTo L nu de (k + 1) = O1 at *
            have hO1' := Lib.hid hO1
            clear hO1
            generalize outTo L nu de k = O0 at *
            go_wp2_with fail
            refine (kwrite (ByteArray.mk #[47]) hK.out (by omega) (by decide)).mono ?_; rintro e1 w9 ⟨rfl, k9, a9⟩
            have K9 := Lib.hid k9
            have G9 := Lib.hid ((a9 _ _ _ _ hG.out (by decide) (by decide)).trans hG.out)
            clear k9 a9 hcell
            go_wp2
            go_loopw [60] (fun i wr => ∃ j : Nat, j ≤ xs.length ∧ i = .int .i64 j ∧ Hid (KeyAt w wr #[.int .i64 11, .string nm, .bool ng, .slice a nu.length c, .slice b de.length d, .slice g args.length e, .int .i64 so] (O0 ++ 47 :: limbsL (xs.take j))) ∧ Hid (wr.heap[w8.heap.size]? = some (.cells #[.slice a nu.length c, .slice b de.length d] 30 (0, 0)))) (fun i _ => xs.length - (intOf i).toNat)
            case atStart => exact ⟨0, Nat.zero_le _, rfl, K9.out, G9.out⟩
            case round =>
              obtain ⟨j, hj, rfl, hKj, hGj⟩ := hrel
              by_cases hjl : j < xs.length
              · obtain ⟨b3, o3, cs3, ha3, _, hr3, hc3⟩ := (hread'.out.below hKj.out.b (Nat.le_refl _)).at (List.getElem?_eq_getElem hjl)
                have hw3 := hlow'.out xs[j] (List.getElem_mem hjl)
                have hc4 := hc3 0 (.int .u64 xs[j]) (by rw [hr3.1]; rfl)
                have hsucc := Lib.hid (limbsL_succ hjl)
                have hlj := limbsL_le (xs := xs.take j) (fun x hx => hlow'.out.ok x (List.mem_of_mem_take hx))
                rw [List.length_take] at hlj
                have hlj' := @Lib.hid ((O0 ++ 47 :: limbsL (xs.take j)).length ≤ 76000400) (by rw [List.length_append, List.length_cons]; omega)
                rw [nth_eq hjl] at hsucc
                obtain ⟨mm, hmm⟩ := Int.eq_ofNat_of_zero_le hw3.1
                rw [hmm] at hc4 hsucc hw3
                have hm100 : mm < 100 := by omega
                have hc5 : wr.cell? ⟨b3, o3 + j, none⟩ = some (.int .u64 mm) := by simpa [Rep.u64] using hc4
                subst ha3
                have hfm := Lib.hid (fmt_any mm hm100 wr)
                have hji : (j : Int) < xs.length := by omega
                have zm : (itoaB (mm : Int)).size ≤ 21 := by rw [size_data]; exact itoaL_le (show okI (mm : Int) from ⟨by omega, by omega⟩)
                have zmd := @Lib.hid ((itoaB (mm : Int)).data.toList = Lib.itoa (mm : Int)) (by simp [itoaB])
                have hz : ¬ 9223372036854775807 < (itoaB (mm : Int)).size + 1 := by omega
                clear hc3 hc4 hr3 hw3 hmm hlj
                go_wp2_with fail
                refine hfm.out.mono ?_; rintro e1 w10 ⟨rfl, rfl⟩
                go_wp2_with fail
                refine (kwrite (itoaB (mm : Int) ++ ByteArray.mk #[44]) hKj.out (by have := hlj'.out; omega) (by rw [ByteArray.size_append]; have : (ByteArray.mk #[44]).size = 1 := rfl; omega)).mono ?_; rintro e1 w11 ⟨rfl, k11, a11⟩
                have K11 := Lib.hid k11
                have G11 := Lib.hid ((a11 _ _ _ _ hGj.out (by decide) (by decide)).trans hGj.out)
                clear k11 a11
                go_wp2
                go_roundw
                case rel =>
                  refine ⟨j + 1, by omega, by go_num, ?_, G11.out⟩
                  rw [hsucc.out]
                  have h11 := K11.out
                  rw [ByteArray.data_append, Array.toList_append, zmd.out, List.append_assoc, List.cons_append] at h11
                  exact h11
                case measure => simp [intOf]; omega
              · have hjt : xs.take j = xs := List.take_of_length_le (by omega)
                rw [hjt, ← hout'.out] at hKj
                clear hjt
                go_wp2
                go_roundw
                case rel => exact ⟨k + 1, by omega, by go_num, by rw [hO1'.out]; exact hKj.out, hGj.out⟩
                case measure => simp [intOf]; omega
          · have hk2 : k = 2 := by omega
            subst hk2
            have hv2 := @Lib.hid (KB = ⟨(outTo L nu de 2).toArray⟩) (by rw [hv.out]; show _ = ByteArray.mk ((L ++ 47 :: limbsL nu) ++ 47 :: limbsL de).toArray; rw [hLt.out]; simp)
            go_wp2_with fail
            refine (Tryz.Builder_String_any w.heap.size (w.heap.size + 1) _ wr hK.out.k hK.out.b.size).mono ?_; rintro e1 w9 ⟨rfl, hb9⟩
            have B9 := Lib.hid (hK.out.b.trans hb9)
            clear hb9
            go_wp2
            go_ret
            exact ⟨by rw [hv2.out]; rfl, B9.out⟩
end Go.Proofs.YtikmkalfdiiahaaGreatDoor
