/-
  Parts of this claim's texts, one behind the other: V G MS M TT TU. No condition.
-/
import Derived.WalkKit
import Derived.WalkSpells
import Derived.WalkLawsBesides
import Derived.Lib.Hide
import Derived.Lib.RowBridge
import Derived.Sort.Grow
import Derived.Deep.Draws
import Derived.StillTailTactics
import Derived.Deep.RegionHeld3
import Derived.Deep.AppendLies
import Derived.ArgAppend
import Derived.Maps.AppendAt
import Derived.Maps.OwnSet
import Derived.StringKeys
import Derived.Deep.RegionHeld
import Derived.StillTail
set_option linter.unusedVariables false
set_option linter.unusedSimpArgs false
/-
  The vocabulary of this seat's contracts: a slice of ints that can be read in a world ('RdI'), how it stays readable behind a call that writes nothing old ('Below'), and the bridge between the words of append ('ownsRow') and of the sort ('Holds', 'putRow', 'grow'). No condition; no program.
-/
namespace Go.RowKit
theorem Below.drewN {B : Nat} {a w : World} (h : Below B a w) (q : Nat) : Below B a (w.drewN q) := ⟨h.os, h.tape, h.output, h.size, h.block⟩
end Go.RowKit
namespace Go.Proofs.YtikmkalfdiiahaaGreatDoor
open Go.RowKit Go.Sort Go.Lib

/-- Element j (0 beyond the end): behind a name, so that no rule takes it apart. -/
def nth (xs : List Int) (j : Nat) : Int := xs.getD j 0
theorem nth_eq {xs : List Int} {j : Nat} (h : j < xs.length) : nth xs j = xs[j] := by simp [nth, List.getD, h]
theorem nth_mem {xs : List Int} {j : Nat} (h : j < xs.length) : nth xs j ∈ xs := by rw [nth_eq h]; exact List.getElem_mem h
theorem ext_nth {xs ys : List Int} (h : xs.length = ys.length) (e : ∀ j, j < xs.length → nth xs j = nth ys j) : xs = ys := by
  apply List.ext_getElem h
  intro i h1 h2
  have := e i h1
  rwa [nth_eq h1, nth_eq h2] at this

def hasI (xs : List Int) (x : Int) : Bool := xs.contains x
theorem hasI_iff {xs : List Int} {x : Int} : hasI xs x = true ↔ x ∈ xs := by simp [hasI]
def nthB (xs : List Bool) (j : Nat) : Bool := xs.getD j false
theorem nthB_eq {xs : List Bool} {j : Nat} (h : j < xs.length) : nthB xs j = xs[j] := by simp [nthB, List.getD, h]

/-- The slice with address a and length n reads as the ints xs. -/
structure RdI (w : World) (a : Option Addr) (n : Nat) (xs : List Int) : Prop where
  len : xs.length = n
  wf : ∀ x ∈ xs, -9223372036854775808 ≤ x ∧ x ≤ 9223372036854775807
  cells : 0 < n → ∃ b o, a = some ⟨b, o, none⟩ ∧ b < w.heap.size ∧ ∀ j, j < n → w.cell? ⟨b, o + j, none⟩ = some (.int .i64 (nth xs j))

theorem RdI.nil (w : World) (a : Option Addr) : RdI w a 0 [] := ⟨rfl, by simp, by omega⟩

theorem RdI.below {w w' : World} {a : Option Addr} {n B : Nat} {xs : List Int} (h : RdI w a n xs) (hb : Below B w w') (hB : w.heap.size ≤ B) : RdI w' a n xs := by
  refine ⟨h.len, h.wf, fun hn => ?_⟩
  obtain ⟨b, o, ha, hlt, hc⟩ := h.cells hn
  exact ⟨b, o, ha, Nat.lt_of_lt_of_le hlt hb.size, fun j hj => by rw [hb.cell (p := ⟨b, o + j, none⟩) (Nat.lt_of_lt_of_le hlt hB)]; exact hc j hj⟩
theorem RdI.drewN {w : World} {a : Option Addr} {n : Nat} {xs : List Int} (h : RdI w a n xs) (q : Nat) : RdI (w.drewN q) a n xs := ⟨h.len, h.wf, h.cells⟩
theorem RdI.drew {w : World} {a : Option Addr} {n : Nat} {xs : List Int} (h : RdI w a n xs) : RdI w.drew a n xs := ⟨h.len, h.wf, h.cells⟩
theorem RdI.at {w : World} {a : Option Addr} {n : Nat} {xs : List Int} (h : RdI w a n xs) (k : Nat) (hk : k < n) : ∃ b o, a = some ⟨b, o, none⟩ ∧ w.cell? ⟨b, o + k, none⟩ = some (.int .i64 (nth xs k)) := by
  obtain ⟨b, o, ha, _, hc⟩ := h.cells (by omega)
  exact ⟨b, o, ha, hc k hk⟩
/-- The slice with address a and length n reads as the bools xs. -/
structure RdB (w : World) (a : Option Addr) (n : Nat) (xs : List Bool) : Prop where
  len : xs.length = n
  cells : 0 < n → ∃ b o, a = some ⟨b, o, none⟩ ∧ b < w.heap.size ∧ ∀ j, j < n → w.cell? ⟨b, o + j, none⟩ = some (.bool (nthB xs j))
theorem RdB.below {w w' : World} {a : Option Addr} {n B : Nat} {xs : List Bool} (h : RdB w a n xs) (hb : Below B w w') (hB : w.heap.size ≤ B) : RdB w' a n xs := by
  refine ⟨h.len, fun hn => ?_⟩
  obtain ⟨b, o, ha, hlt, hc⟩ := h.cells hn
  exact ⟨b, o, ha, Nat.lt_of_lt_of_le hlt hb.size, fun j hj => by rw [hb.cell (p := ⟨b, o + j, none⟩) (Nat.lt_of_lt_of_le hlt hB)]; exact hc j hj⟩
theorem RdB.drewN {w : World} {a : Option Addr} {n : Nat} {xs : List Bool} (h : RdB w a n xs) (q : Nat) : RdB (w.drewN q) a n xs := ⟨h.len, h.cells⟩
theorem RdB.at {w : World} {a : Option Addr} {n : Nat} {xs : List Bool} (h : RdB w a n xs) (k : Nat) (hk : k < n) : ∃ b o, a = some ⟨b, o, none⟩ ∧ w.cell? ⟨b, o + k, none⟩ = some (.bool (nthB xs k)) := by
  obtain ⟨b, o, ha, _, hc⟩ := h.cells (by omega)
  exact ⟨b, o, ha, hc k hk⟩

/-- What an own row of ints reads as. -/
theorem RdI.own {w : World} {base n : Nat} {e : TypeId} {a : Option Addr} {m c : Nat} {xs : List Int} (h : w.ownsRow base e 1 (.slice a m c) n (xs.map (Value.int .i64))) (hwf : ∀ x ∈ xs, -9223372036854775808 ≤ x ∧ x ≤ 9223372036854775807) : m = n ∧ RdI w a n xs ∧ (∀ b, a = some b → base ≤ b.block ∧ b.block < w.heap.size) := by
  obtain ⟨hl, h2⟩ := h
  have hl' : xs.length = n := by simpa using hl
  rcases h2 with ⟨hv, rfl⟩ | ⟨g, cap, cur, hv, hg, hh, h1, h2, h3, h4⟩
  · cases hv
    exact ⟨rfl, ⟨hl', hwf, by omega⟩, by simp⟩
  · cases hv
    have hlt := (Array.getElem?_eq_some_iff.1 hh).1
    refine ⟨rfl, ⟨hl', hwf, fun hn => ⟨g, 0, rfl, hlt, fun j hj => ?_⟩⟩, by rintro b ⟨⟩; exact ⟨hg, hlt⟩⟩
    have e1 : (cur.toList.take (n * 1))[j]? = (xs.map (Value.int .i64))[j]? := by rw [h4]
    rw [List.getElem?_take_of_lt (by omega)] at e1
    simp only [World.cell?, hh, Nat.zero_add, Option.isSome_none, Bool.false_eq_true, if_false]
    rw [← Array.getElem?_toList, e1]
    simp [nth, List.getD, show j < xs.length by omega]

/-- A literal of ints, just laid. -/
theorem RdI.lit (xs : List Int) (e : TypeId) (w : World) (hwf : ∀ x ∈ xs, -9223372036854775808 ≤ x ∧ x ≤ 9223372036854775807) : RdI (w.alloc (.cells (xs.map (Value.int .i64)).toArray e)) (some ⟨w.heap.size, 0, none⟩) xs.length xs := by
  refine ⟨rfl, hwf, fun _ => ⟨w.heap.size, 0, rfl, by simp, fun j hj => ?_⟩⟩
  simp [World.cell?_alloc_new, nth, List.getD, hj]
theorem RdI.lit2 (xs ys : List Int) (e : TypeId) (w : World) (hx : ∀ x ∈ xs, -9223372036854775808 ≤ x ∧ x ≤ 9223372036854775807) (hy : ∀ x ∈ ys, -9223372036854775808 ≤ x ∧ x ≤ 9223372036854775807) :
    RdI ((w.alloc (.cells (xs.map (Value.int .i64)).toArray e)).alloc (.cells (ys.map (Value.int .i64)).toArray e)) (some ⟨w.heap.size, 0, none⟩) xs.length xs ∧
    RdI ((w.alloc (.cells (xs.map (Value.int .i64)).toArray e)).alloc (.cells (ys.map (Value.int .i64)).toArray e)) (some ⟨w.heap.size + 1, 0, none⟩) ys.length ys := by
  have h2 := RdI.lit ys e (w.alloc (.cells (xs.map (Value.int .i64)).toArray e)) hy
  rw [World.size_alloc] at h2
  exact ⟨(RdI.lit xs e w hx).below ((Below.refl _ _).alloc (Nat.le_refl _) _) (Nat.le_refl _), h2⟩
theorem below_some {B : Nat} {w w' : World} {row : Option Nat} (hg : w.grownBy w' row) (hB : B ≤ w.heap.size) (hr : ∀ k, row = some k → B ≤ k) : Below B w w' := (Below.refl _ _).grown hg hB hr

theorem holdsI_of_block {w : World} {g : Nat} {cur : Array Value} {e : TypeId} {ss : List Int} (hb : w.heap[g]? = some (.cells cur e (0, 0))) (ht : cur.toList.take ss.length = ss.map (Value.int .i64)) : Holds (Value.int .i64) w g 0 ss.toArray := by
  intro j hj
  have hj' : j < ss.length := by simpa using hj
  refine ⟨?_, by simp [World.frozen?, hb]⟩
  have h1 : (cur.toList.take ss.length)[j]? = (ss.map (Value.int .i64))[j]? := by rw [ht]
  rw [List.getElem?_take_of_lt hj'] at h1
  simp only [World.cell?, hb, Nat.zero_add]
  simp only [Option.isSome_none, Bool.false_eq_true, if_false]
  rw [← Array.getElem?_toList, h1]
  simp [hj']
theorem heapI_sorted {w : World} {g n : Nat} {os : Array Obj} {cur : Array Value} {e : TypeId} {fr : Nat × Nat} (d : Array Int) (hb : w.heap[g]? = some (.cells cur e fr)) :
    (grow (putRow (Value.int .i64) (Sort.ahead w n) g 0 d) os).heap[g]? = some (.cells (putCells (Value.int .i64) 0 d cur) e fr) := by
  have hg : g < w.heap.size := (Array.getElem?_eq_some_iff.1 hb).1
  rw [heap_grow_old _ _ (by simpa using hg)]
  simp [putRow, mapBlock, Sort.ahead, Array.getElem?_modify, hb, onCells]
theorem grownByI_sorted {w : World} {g n : Nat} {os : Array Obj} (d : Array Int) : w.grownBy (grow (putRow (Value.int .i64) (Sort.ahead w n) g 0 d) os) (some g) := by
  refine ⟨rfl, rfl, rfl, by simp, fun k hk hne => ?_⟩
  rw [heap_grow_old _ _ (by simpa using hk)]
  have : g ≠ k := fun e => hne (by rw [e])
  simp [putRow, mapBlock, Sort.ahead, Array.getElem?_modify, this]
theorem takeI_putCells (cur : Array Value) (ts : List Int) (h : ts.length ≤ cur.size) : (putCells (Value.int .i64) 0 ts.toArray cur).toList.take ts.length = ts.map (Value.int .i64) := by
  apply List.ext_getElem?
  intro j
  by_cases hj : j < ts.length
  · rw [List.getElem?_take_of_lt hj, Array.getElem?_toList]
    simp [putCells, hj, show j < cur.size by omega]
  · rw [List.getElem?_take_eq_none (by omega), List.getElem?_eq_none (by simp; omega)]
/-- Behind a permutation of the row in place, the same slice owns the new list. -/
theorem ownsRowI_sorted {w : World} {base g cap n : Nat} {e : TypeId} {os : Array Obj} {cur : Array Value} {ss ts : List Int} (hl : ts.length = ss.length) (hbase : base ≤ g) (hb : w.heap[g]? = some (.cells cur e (0, 0)))
    (h1 : ss.length ≤ cap) (h2 : cap ≤ maxLen) (h3 : cur.size = cap * 1) :
    (grow (putRow (Value.int .i64) (Sort.ahead w n) g 0 ts.toArray) os).ownsRow base e 1 (.slice (some ⟨g, 0, none⟩) ss.length cap) ss.length (ts.map (Value.int .i64)) :=
  ⟨by simp [hl], .inr ⟨g, cap, _, rfl, hbase, heapI_sorted _ hb, h1, h2, by simp [putCells, h3], by rw [Nat.mul_one, ← hl]; exact takeI_putCells cur ts (by omega)⟩⟩
/-- A shorter slice of an own row. -/
theorem ownsRow_cut {w : World} {base g cap n : Nat} {e : TypeId} {xs ys : List Value} (h : w.ownsRow base e 1 (.slice (some ⟨g, 0, none⟩) n cap) n (xs ++ ys)) : w.ownsRow base e 1 (.slice (some ⟨g, 0, none⟩) xs.length cap) xs.length xs := by
  obtain ⟨hl, h2⟩ := h
  rcases h2 with ⟨hv, _⟩ | ⟨g', cap', cur, hv, hg, hh, h1, h2, h3, h4⟩
  · cases hv
  · cases hv
    have hn : n = xs.length + ys.length := by simpa using hl.symm
    refine ⟨by simp, .inr ⟨g, cap, cur, rfl, hg, hh, by omega, h2, h3, ?_⟩⟩
    have : (cur.toList.take (n * 1)).take xs.length = xs := by rw [h4]; simp
    rw [List.take_take] at this
    rw [Nat.mul_one, show xs.length = min xs.length (n * 1) by omega]
    exact this
/-- Behind 'append(v, x)' on an own row. -/
theorem own_snoc {α : Type} {f : α → Value} {w wr w1 : World} {base B : Nat} {e : TypeId} {v v' : Value} {o : Obj} {L L' : List α} {x : α} (hown : wr.ownsRow base e 1 v L.length (L.map f)) (hb : Below B w wr) (hB : B ≤ base) (hBr : B ≤ wr.heap.size)
    (hown1 : w1.ownsRow base e 1 v' (L.length + 1) (L.map f ++ [f x])) (hg : (wr.alloc o).grownBy w1 v.ownBlock) (hL : L' = L ++ [x]) : w1.ownsRow base e 1 v' L'.length (L'.map f) ∧ Below B w w1 := by
  subst hL
  refine ⟨by simpa using hown1, ?_⟩
  exact (hb.alloc hBr o).grown hg (by simp; omega) (fun k hk => Nat.le_trans hB (hown.lt k hk).1)
/-- A region that draws its order, all of whose operations but the last ones (from n on, in one forced order) only read: walked in the order of the text, in a world that is a name. -/
theorem wp_tail {P : Program} {id : Nat} {Q : Exit → Act → World → Prop} {a : Act} {w : World} {l : List Oper} (n : Nat) (hm : P.follows .mixedOrders = true) (hB : Region.lexTailB .any l.toArray n = true)
    (h : ∀ W, W = w.drew → wpStill P l.toArray W (fun a' => wpList P l.toArray Q (l.drop n) a' W) (l.take n) a) : (Code.region id l.toArray true).wp P Q a w :=
  wp_region_still_tail n hm hB (h _ rfl)
/-- 'append(v, ys...)' on an own row of ints: whatever readable slice is appended, a nil one too. -/
theorem run_append_rd {P : Program} {w : World} {t ty e base : Nat} {i : TypeInfo} (ht : P.underlying t = some (.slice e)) (hi : P.info? e = some i) (hz : i.zero = some (.int .i64 0)) (hsize : i.size = 1) (hby : i.bytes = 8)
    {v : Value} {n m c : Nat} {a : Option Addr} {xs : List Value} {ys : List Int} (hown : w.ownsRow base e 1 v n xs) (hr : RdI w a m ys) (hn : n < 1099511627776) (hm : m < 1099511627776) (hbase : base ≤ w.heap.size) :
    ∃ v' w', (Builtin.append_ #[t, t] ty #[v, .slice a m c]).run P w = .ok v' w' ∧ w'.ownsRow base e 1 v' (n + m) (xs ++ ys.map (Value.int .i64)) ∧ w.grownBy w' v.ownBlock := by
  by_cases h0 : 0 < m
  · obtain ⟨b, o, rfl, hlt, hc⟩ := hr.cells h0
    obtain ⟨v', w', h1, h2, h3, _⟩ := run_append_own (P := P) w base t ty e i (.int .i64 0) 1 8 ht hi hz hsize hby rfl (by decide) v n xs hown ⟨b, o, none⟩ m c (ys.map (Value.int .i64)) (by rw [List.length_map, hr.len, Nat.mul_one]) (fun j u hu => by
      rw [List.getElem?_map] at hu
      obtain ⟨y, hy, rfl⟩ := Option.map_eq_some_iff.1 hu
      obtain ⟨hj, hyj⟩ := List.getElem?_eq_some_iff.1 hy
      rw [Addr.add_lit, hc j (by rw [← hr.len]; exact hj), nth_eq hj, hyj]) (fun u hu => by
      obtain ⟨y, _, rfl⟩ := List.mem_map.1 hu; rfl) (by unfold maxLen; omega) (by omega) hbase
    exact ⟨v', w', h1, h2, h3⟩
  · obtain rfl : m = 0 := by omega
    have hys : ys = [] := List.eq_nil_of_length_eq_zero hr.len
    subst hys
    refine ⟨v, w, ?_, by simpa using hown, ⟨rfl, rfl, rfl, Nat.le_refl _, fun _ _ _ => rfl⟩⟩
    rcases hown.2 with ⟨rfl, rfl⟩ | ⟨g, cap, cur, rfl, hbg, hg, hnc, _⟩
    · cases a <;> simp [Builtin.append_, run_underlying ht, sizeOf, typeInfo, hi, Builtin.lenOf, Builtin.firstCells, loadCells, loadCellsFrom]
    · cases a <;> simp [Builtin.append_, run_underlying ht, sizeOf, typeInfo, hi, Builtin.lenOf, Builtin.firstCells, loadCells, loadCellsFrom, hnc, storeCells]
section
variable {P : Program} {w : World} {t base e n m c : Nat} {i : TypeInfo} {v : Value} {ad : Option Addr} {xs : List Value} {ys : List Int} {ops : Array Oper} {o : Oper} {a : Act} {Q : Exit → Act → World → Prop}
theorem wp_append_rd {K : Act → World → Prop} (s x : Operand)
    (ho : o.op = .call { callee := .builtin .append, args := #[s, x], argTypes := #[t, t] })
    (ht : P.underlying t = some (.slice e)) (hi : P.info? e = some i) (hz : i.zero = some (.int .i64 0)) (hsize : i.size = 1) (hby : i.bytes = 8)
    (hs : a.eval s = v) (hx : a.eval x = .slice ad m c) (hown : w.ownsRow base e 1 v n xs) (hr : RdI w ad m ys) (hn : n < 1099511627776) (hm : m < 1099511627776) (hbase : base ≤ w.heap.size)
    (h : ∀ v' w', w'.ownsRow base e 1 v' (n + m) (xs ++ ys.map (Value.int .i64)) → w.grownBy w' v.ownBlock → K (a.put o.dst v') w') : o.wp P a w K Q := by
  obtain ⟨v', w', hr, h2, h3⟩ := run_append_rd (P := P) (ty := o.type) (c := c) ht hi hz hsize hby hown hr hn hm hbase
  unfold Oper.wp execOp
  simp only [ho, resolve, invoke, builtin, Sem.run_bind, Sem.run_pure, Result.andThen_ok, List.map_toArray, List.map_cons, List.map_nil, hs, hx, hr]
  exact h v' w' h2 h3
theorem step_append_rd {K : Act → World → Prop} {E : Prop} (hgd : o.guard = none) (s x : Operand)
    (ho : o.op = .call { callee := .builtin .append, args := #[s, x], argTypes := #[t, t] })
    (ht : P.underlying t = some (.slice e)) (hi : P.info? e = some i) (hz : i.zero = some (.int .i64 0)) (hsize : i.size = 1) (hby : i.bytes = 8)
    (hs : a.eval s = v) (hx : a.eval x = .slice ad m c) (hown : w.ownsRow base e 1 v n xs) (hr : RdI w ad m ys) (hn : n < 1099511627776) (hm : m < 1099511627776) (hbase : base ≤ w.heap.size)
    (h : ∀ v' w', w'.ownsRow base e 1 v' (n + m) (xs ++ ys.map (Value.int .i64)) → w.grownBy w' v.ownBlock → K (a.put o.dst v') w') :
    if Region.wanted o (yielded ops a.tmps) = true then Oper.wp P o a w K Q else E := by
  have hw : Region.wanted o (yielded ops a.tmps) = true := by simp [Region.wanted, hgd]
  rw [if_pos hw]
  exact wp_append_rd s x ho ht hi hz hsize hby hs hx hown hr hn hm hbase h
theorem wpList_append_rd {rest : List Oper} (hgd : o.guard = none) (s x : Operand)
    (ho : o.op = .call { callee := .builtin .append, args := #[s, x], argTypes := #[t, t] })
    (ht : P.underlying t = some (.slice e)) (hi : P.info? e = some i) (hz : i.zero = some (.int .i64 0)) (hsize : i.size = 1) (hby : i.bytes = 8)
    (hs : a.eval s = v) (hx : a.eval x = .slice ad m c) (hown : w.ownsRow base e 1 v n xs) (hr : RdI w ad m ys) (hn : n < 1099511627776) (hm : m < 1099511627776) (hbase : base ≤ w.heap.size)
    (h : ∀ v' w', w'.ownsRow base e 1 v' (n + m) (xs ++ ys.map (Value.int .i64)) → w.grownBy w' v.ownBlock → wpList P ops Q rest (a.put o.dst v') w') : wpList P ops Q (o :: rest) a w :=
  wpList_plain hgd fun _ hK => wp_append_rd s x ho ht hi hz hsize hby hs hx hown hr hn hm hbase fun v' w' h2 h3 => hK _ _ (h v' w' h2 h3)
end
/-- 'l[k:]' and 'l[:k]' of a readable slice. -/
theorem run_from {P : Program} {w : World} {t e : TypeId} {a : Option Addr} {n c k : Nat} {xs : List Int} (ht : P.underlying t = some (.slice e)) (hsz : ∀ w, (sizeOf e).run P w = .ok 1 w) (hr : RdI w a n xs) (hk : k ≤ n) (hc : n ≤ c) :
    ∃ a', (∀ W, (Instr.slice t (.slice a n c) (some (.int .i64 k)) none none).run P W = .ok (.slice a' (n - k) (c - k)) W) ∧ RdI w a' (n - k) (xs.drop k) := by
  refine ⟨if c = k then a else a.map (·.add (k * 1)), fun q => ?_, ?_⟩
  · have h0 : (0 : Int) ≤ k ∧ (k : Int) ≤ n := by omega
    simp [Instr.slice, Instr.sliceBounds, Instr.sliceBound, run_underlying ht, hsz, h0, asIntOf]
    intro h; omega
  · refine ⟨by rw [List.length_drop, hr.len], fun x hx => hr.wf x (List.mem_of_mem_drop hx), fun hn => ?_⟩
    obtain ⟨b, o, rfl, hlt, hcell⟩ := hr.cells (by omega)
    refine ⟨b, o + k, ?_, hlt, fun j hj => ?_⟩
    · rw [if_neg (by omega)]; simp [Addr.add_lit]
    · rw [Nat.add_assoc, hcell (k + j) (by omega)]
      simp [nth, List.getD]
theorem run_upto {P : Program} {w : World} {t e : TypeId} {a : Option Addr} {n c k : Nat} {xs : List Int} (ht : P.underlying t = some (.slice e)) (hsz : ∀ w, (sizeOf e).run P w = .ok 1 w) (hr : RdI w a n xs) (hk : k ≤ n) (hc : n ≤ c) :
    (∀ W, (Instr.slice t (.slice a n c) none (some (.int .i64 k)) none).run P W = .ok (.slice a k c) W) ∧ RdI w a k (xs.take k) := by
  refine ⟨fun q => ?_, ?_⟩
  · have h0 : (0 : Int) ≤ k ∧ (k : Int) ≤ c := by omega
    have e0 : (if c = 0 then a else a.map (·.add (0 * 1))) = a := by
      split
      · rfl
      · cases a <;> simp [Addr.add]
    have hkc : k ≤ c := by omega
    simp only [Nat.zero_mul] at e0
    simp [Instr.slice, Instr.sliceBounds, Instr.sliceBound, run_underlying ht, hsz, hkc, asIntOf]
    simpa using e0
  · refine ⟨by rw [List.length_take, hr.len]; omega, fun x hx => hr.wf x (List.mem_of_mem_take hx), fun hn => ?_⟩
    obtain ⟨b, o, rfl, hlt, hcell⟩ := hr.cells (by omega)
    refine ⟨b, o, rfl, hlt, fun j hj => ?_⟩
    rw [hcell j (by omega)]
    simp [nth, List.getD, hj]
theorem grow_empty' (w : World) : grow w #[] = w := by simp [grow]
end Go.Proofs.YtikmkalfdiiahaaGreatDoor

/-
  Words for memory, for whatever element: rows of one's own whose capacity may be less than their block ('OwnC') and what append makes of them; blocks that belong to a struct ('ownOf') and steps that touch nothing else ('PStep'); what cells read as ('Rep', 'SlR', 'OwnR'), with the set of blocks that the reading leans on. No program. No condition.
-/
namespace Go.Proofs.YtikmkalfdiiahaaGreatDoor
open Go.RowKit Go.Lib

/-- An own row whose capacity may be less than its block's. -/
def OwnC (w : World) (base : Nat) (e : TypeId) (size : Nat) (v : Value) (n : Nat) (xs : List Value) : Prop :=
  xs.length = n * size ∧
  ((v = .slice none 0 0 ∧ n = 0) ∨
   ∃ g cap cur, v = .slice (some ⟨g, 0, none⟩) n cap ∧ base ≤ g ∧ w.heap[g]? = some (.cells cur e (0, 0)) ∧ n ≤ cap ∧ cap ≤ maxLen ∧ cap * size ≤ cur.size ∧ cur.toList.take (n * size) = xs)
section
variable {w w' : World} {base : Nat} {e : TypeId} {size n : Nat} {v : Value} {xs : List Value}
theorem OwnC.of (h : w.ownsRow base e size v n xs) : OwnC w base e size v n xs := by
  refine ⟨h.1, ?_⟩
  rcases h.2 with hn | ⟨g, cap, cur, h1, h2, h3, h4, h5, h6, h7⟩
  · exact .inl hn
  · exact .inr ⟨g, cap, cur, h1, h2, h3, h4, h5, Nat.le_of_eq h6.symm, h7⟩
theorem OwnC.nil (w : World) (base : Nat) (e : TypeId) (size : Nat) : OwnC w base e size (.slice none 0 0) 0 [] := ⟨by simp, .inl ⟨rfl, rfl⟩⟩
theorem OwnC.slice (h : OwnC w base e size v n xs) : ∃ a c, v = .slice a n c ∧ n ≤ c ∧ c ≤ maxLen := by
  rcases h.2 with ⟨rfl, rfl⟩ | ⟨g, cap, cur, rfl, _, _, h1, h2, _⟩
  · exact ⟨none, 0, rfl, Nat.le_refl _, Nat.zero_le _⟩
  · exact ⟨_, cap, rfl, h1, h2⟩
theorem OwnC.lt (h : OwnC w base e size v n xs) : ∀ k, v.ownBlock = some k → base ≤ k ∧ k < w.heap.size := by
  intro k hk
  rcases h.2 with ⟨rfl, _⟩ | ⟨g, cap, cur, rfl, hb, hg, _⟩
  · simp [Value.ownBlock] at hk
  · simp [Value.ownBlock] at hk
    subst hk
    exact ⟨hb, (Array.getElem?_eq_some_iff.1 hg).1⟩
theorem OwnC.ty (h : OwnC w base e size v n xs) : ∀ k, v.ownBlock = some k → ∃ cs f, w.heap[k]? = some (.cells cs e f) := by
  intro k hk
  rcases h.2 with ⟨rfl, _⟩ | ⟨g, cap, cur, rfl, hb, hg, _⟩
  · simp [Value.ownBlock] at hk
  · simp [Value.ownBlock] at hk
    subst hk
    exact ⟨_, _, hg⟩
theorem OwnC.same (h : OwnC w base e size v n xs) (hb : ∀ k, v.ownBlock = some k → w'.heap[k]? = w.heap[k]?) : OwnC w' base e size v n xs := by
  refine ⟨h.1, ?_⟩
  rcases h.2 with hn | ⟨g, cap, cur, rfl, h1, h2, h3⟩
  · exact .inl hn
  · exact .inr ⟨g, cap, cur, rfl, h1, by rw [hb g rfl]; exact h2, h3⟩
theorem OwnC.alloc (h : OwnC w base e size v n xs) (o : Obj) : OwnC (w.alloc o) base e size v n xs := h.same fun k hk => Below.heap_alloc w o k (h.lt k hk).2
theorem OwnC.cells (h : OwnC w base e size v n xs) {g : Nat} (hg : v.ownBlock = some g) : ∀ j u, xs[j]? = some u → w.cell? ⟨g, j, none⟩ = some u := by
  intro j u hu
  rcases h.2 with ⟨rfl, _⟩ | ⟨g', cap, cur, rfl, _, hgg, _, _, _, htake⟩
  · simp [Value.ownBlock] at hg
  · simp [Value.ownBlock] at hg
    subst hg
    have hj : j < xs.length := (List.getElem?_eq_some_iff.1 hu).1
    rw [← htake] at hu
    rw [List.getElem?_take_of_lt (by have := h.1; omega)] at hu
    simp only [World.cell?, hgg, Option.isSome_none, Bool.false_eq_true, if_false]
    rw [← Array.getElem?_toList]; exact hu
theorem OwnC.form (h : OwnC w base e size v n xs) (hn : 0 < n) : ∃ g cap, v = .slice (some ⟨g, 0, none⟩) n cap ∧ base ≤ g ∧ g < w.heap.size := by
  rcases h.2 with ⟨_, h0⟩ | ⟨g, cap, cur, hv, hb, hg, _⟩
  · omega
  · exact ⟨g, cap, hv, hb, (Array.getElem?_eq_some_iff.1 hg).1⟩
/-- 'v[:k:c]', 'v[:k]' -/
theorem OwnC.cut {a : Option Addr} {c c' k : Nat} (h : OwnC w base e size (.slice a n c) n xs) (hk : k ≤ n) (hc1 : k ≤ c') (hc2 : c' ≤ c) : OwnC w base e size (.slice a k c') k (xs.take (k * size)) := by
  refine ⟨by rw [List.length_take, h.1]; exact Nat.min_eq_left (Nat.mul_le_mul_right _ hk), ?_⟩
  rcases h.2 with ⟨hv, rfl⟩ | ⟨g, cap, cur, hv, h1, h2, h3, h4, h5, h6⟩
  · cases hv
    obtain rfl : k = 0 := by omega
    obtain rfl : c' = 0 := by omega
    exact .inl ⟨rfl, rfl⟩
  · cases hv
    refine .inr ⟨g, c', cur, rfl, h1, h2, hc1, by omega, Nat.le_trans (Nat.mul_le_mul_right _ hc2) h5, ?_⟩
    rw [← h6, List.take_take, Nat.min_eq_left (Nat.mul_le_mul_right _ hk)]
/-- what is appended: cells at an address, or nothing -/
def Src (w : World) (size : Nat) (A : Option Addr) (m : Nat) (news : List Value) : Prop :=
  news.length = m * size ∧ (0 < m → ∃ ad, A = some ad ∧ ∀ j u, news[j]? = some u → w.cell? (ad.add j) = some u)
theorem Src.nothing {size : Nat} {A : Option Addr} : Src w size A 0 [] := ⟨by simp, fun h => absurd h (by omega)⟩
theorem Src.one {size b : Nat} {news : List Value} (hl : news.length = size) (h : ∀ j u, news[j]? = some u → w.cell? ⟨b, j, none⟩ = some u) : Src w size (some ⟨b, 0, none⟩) 1 news :=
  ⟨by omega, fun _ => ⟨_, rfl, fun j u hu => by rw [Addr.add_lit, Nat.zero_add]; exact h j u hu⟩⟩
variable {P : Program}
theorem run_append_C (t ty : TypeId) (i : TypeInfo) (z : Value) (bytes : Nat) (ht : P.underlying t = some (.slice e)) (hi : P.info? e = some i) (hz : i.zero = some z)
    (hsize : i.size = size) (hby : i.bytes = bytes) (hzs : z.cells.size = size) (hsz : 0 < size) (hown : OwnC w base e size v n xs)
    (A : Option Addr) (m c : Nat) (news : List Value) (hs : Src w size A m news) (h1 : ∀ u ∈ news, u.oneCell' = true) (h63 : n + m ≤ maxLen) (hbytes : (n + m) * bytes ≤ 140737488355328) (hbase : base ≤ w.heap.size) :
    ∃ v' w', (Builtin.append_ #[t, t] ty #[v, .slice A m c]).run P w = .ok v' w' ∧ OwnC w' base e size v' (n + m) (xs ++ news) ∧ w.grownBy w' v.ownBlock ∧ (v'.ownBlock = v.ownBlock ∨ ∀ k, v'.ownBlock = some k → w.heap.size ≤ k) := by
  rcases Nat.eq_zero_or_pos m with rfl | hm
  · have hn : news = [] := List.eq_nil_of_length_eq_zero (by simpa using hs.1)
    subst hn
    refine ⟨v, w, ?_, by simpa using hown, ⟨rfl, rfl, rfl, Nat.le_refl _, fun _ _ _ => rfl⟩, .inl rfl⟩
    rcases hown.2 with ⟨rfl, rfl⟩ | ⟨g, cap, cur, rfl, _, _, hnc, _⟩
    · cases A <;> simp [Builtin.append_, run_underlying ht, sizeOf, typeInfo, hi, Builtin.lenOf, Builtin.firstCells, loadCells, loadCellsFrom]
    · cases A <;> simp [Builtin.append_, run_underlying ht, sizeOf, typeInfo, hi, Builtin.lenOf, Builtin.firstCells, loadCells, loadCellsFrom, hnc, storeCells]
  obtain ⟨ad, rfl, hnews⟩ := hs.2 hm
  have hl := hs.1
  rcases hown.2 with ⟨rfl, rfl⟩ | ⟨g, cap, cur, rfl, hbg, hg, hnc, hcm, hcs, htake⟩
  · have hx : xs = [] := List.eq_nil_of_length_eq_zero (by simpa using hown.1)
    subst hx
    obtain ⟨v', w', hr, h2, h3, h4⟩ := run_append_own_at (P := P) w base t ty e i z size bytes ht hi hz hsize hby hzs hsz _ 0 [] (World.ownsRow_nil w base e size) ad m c news hl hnews h1 h63 hbytes hbase
    refine ⟨v', w', hr, .of h2, h3, ?_⟩
    rcases h4.2 with h5 | h5
    · exact .inl h5
    · exact .inr fun k hk => by rw [h5] at hk; injection hk with hk; omega
  · subst hsize
    by_cases hroom : n + m ≤ cap
    · have hfit : n * i.size + news.length ≤ cur.size := by rw [hl, ← Nat.add_mul]; exact Nat.le_trans (Nat.mul_le_mul_right _ hroom) hcs
      have hr := run_append_room (P := P) w t ty e i ht hi g n cap cur hg ad m c news hl hnews h1 hroom hfit
      have hlen : (xs ++ news).length = (n + m) * i.size := by rw [List.length_append, hown.1, hl, Nat.add_mul]
      refine ⟨_, _, hr, ⟨hlen, .inr ⟨g, cap, _, rfl, hbg, setRow_heap w g cur _ e _ hg, hroom, hcm, ?_, ?_⟩⟩, ⟨rfl, rfl, rfl, by simp, fun k _ hk => setRow_other w g k _ (fun e => hk (by simp [Value.ownBlock, e]))⟩, .inl rfl⟩
      · simp only [List.size_toArray, List.length_append, List.length_take, List.length_drop, Array.length_toList]
        omega
      · rw [htake, ← hlen]
        exact List.take_left
    · obtain ⟨v', w', hr, h2, h3⟩ := run_append_arg_grows (P := P) w t ty e i z i.size bytes ht hi hz rfl hby hzs hsz ⟨g, 0, none⟩ n cap xs hown.1 (fun j u hu => by rw [Addr.add_lit, Nat.zero_add]; exact hown.cells (g := g) rfl j u hu) ad m c news hl hnews (by omega) h63 hbytes
      have h4 := OwnC.of h2
      refine ⟨v', w', hr, ⟨h4.1, ?_⟩, ⟨h3.os, h3.tape, h3.output, h3.size, fun k hk _ => h3.block k hk (by simp)⟩, .inr fun k hk => (h4.lt k hk).1⟩
      rcases h4.2 with hn | ⟨g', cap', cur', q1, q2, q3⟩
      · exact .inl hn
      · exact .inr ⟨g', cap', cur', q1, Nat.le_trans hbase q2, q3⟩
variable {t : TypeId} {i : TypeInfo} {z : Value} {bytes m c : Nat} {A : Option Addr} {news : List Value} {ops : Array Oper} {o : Oper} {a : Act} {Q : Exit → Act → World → Prop}
theorem wp_append_C {K : Act → World → Prop} (s x : Operand) (ho : o.op = .call { callee := .builtin .append, args := #[s, x], argTypes := #[t, t] })
    (ht : P.underlying t = some (.slice e)) (hi : P.info? e = some i) (hz : i.zero = some z) (hsize : i.size = size) (hby : i.bytes = bytes) (hzs : z.cells.size = size) (hsz : 0 < size)
    (hs : a.eval s = v) (hx : a.eval x = .slice A m c) (hown : OwnC w base e size v n xs) (hr : Src w size A m news) (h1 : ∀ u ∈ news, u.oneCell' = true) (h63 : n + m ≤ maxLen) (hbytes : (n + m) * bytes ≤ 140737488355328) (hbase : base ≤ w.heap.size)
    (h : ∀ v' w', OwnC w' base e size v' (n + m) (xs ++ news) → w.grownBy w' v.ownBlock → (v'.ownBlock = v.ownBlock ∨ ∀ k, v'.ownBlock = some k → w.heap.size ≤ k) → K (a.put o.dst v') w') : o.wp P a w K Q := by
  obtain ⟨v', w', hrun, h2, h3, h4⟩ := run_append_C (P := P) t o.type i z bytes ht hi hz hsize hby hzs hsz hown A m c news hr h1 h63 hbytes hbase
  unfold Oper.wp execOp
  simp only [ho, resolve, invoke, builtin, Sem.run_bind, Sem.run_pure, Result.andThen_ok, List.map_toArray, List.map_cons, List.map_nil, hs, hx, hrun]
  exact h v' w' h2 h3 h4
theorem wpList_append_C {rest : List Oper} (hgd : o.guard = none) (s x : Operand) (ho : o.op = .call { callee := .builtin .append, args := #[s, x], argTypes := #[t, t] })
    (ht : P.underlying t = some (.slice e)) (hi : P.info? e = some i) (hz : i.zero = some z) (hsize : i.size = size) (hby : i.bytes = bytes) (hzs : z.cells.size = size) (hsz : 0 < size)
    (hs : a.eval s = v) (hx : a.eval x = .slice A m c) (hown : OwnC w base e size v n xs) (hr : Src w size A m news) (h1 : ∀ u ∈ news, u.oneCell' = true) (h63 : n + m ≤ maxLen) (hbytes : (n + m) * bytes ≤ 140737488355328) (hbase : base ≤ w.heap.size)
    (h : ∀ v' w', OwnC w' base e size v' (n + m) (xs ++ news) → w.grownBy w' v.ownBlock → (v'.ownBlock = v.ownBlock ∨ ∀ k, v'.ownBlock = some k → w.heap.size ≤ k) → wpList P ops Q rest (a.put o.dst v') w') : wpList P ops Q (o :: rest) a w :=
  wpList_plain hgd fun _ hK => wp_append_C s x ho ht hi hz hsize hby hzs hsz hs hx hown hr h1 h63 hbytes hbase fun v' w' h2 h3 h4 => hK _ _ (h v' w' h2 h3 h4)
theorem step_append_C {K : Act → World → Prop} {E : Prop} (hgd : o.guard = none) (s x : Operand) (ho : o.op = .call { callee := .builtin .append, args := #[s, x], argTypes := #[t, t] })
    (ht : P.underlying t = some (.slice e)) (hi : P.info? e = some i) (hz : i.zero = some z) (hsize : i.size = size) (hby : i.bytes = bytes) (hzs : z.cells.size = size) (hsz : 0 < size)
    (hs : a.eval s = v) (hx : a.eval x = .slice A m c) (hown : OwnC w base e size v n xs) (hr : Src w size A m news) (h1 : ∀ u ∈ news, u.oneCell' = true) (h63 : n + m ≤ maxLen) (hbytes : (n + m) * bytes ≤ 140737488355328) (hbase : base ≤ w.heap.size)
    (h : ∀ v' w', OwnC w' base e size v' (n + m) (xs ++ news) → w.grownBy w' v.ownBlock → (v'.ownBlock = v.ownBlock ∨ ∀ k, v'.ownBlock = some k → w.heap.size ≤ k) → K (a.put o.dst v') w') : if Region.wanted o (yielded ops a.tmps) = true then Oper.wp P o a w K Q else E := by
  have hw : Region.wanted o (yielded ops a.tmps) = true := by simp [Region.wanted, hgd]
  rw [if_pos hw]
  exact wp_append_C s x ho ht hi hz hsize hby hzs hsz hs hx hown hr h1 h63 hbytes hbase h
end

/-! ### what belongs to a struct -/
/-- block k is the struct's, or one of its slices' -/
def ownOf (w : World) (p k : Nat) : Prop := k = p ∨ ∃ cs t f, w.heap[p]? = some (.cells cs t f) ∧ ∃ v ∈ cs, v.ownBlock = some k
/-- nothing but what belongs to the struct has turned; what did not belong to it does not yet -/
structure PStep (p : Nat) (w w' : World) : Prop where
  os : w'.os = w.os
  tape : w'.tape = w.tape
  output : w'.output = w.output
  size : w.heap.size ≤ w'.heap.size
  block : ∀ k, k < w.heap.size → ¬ ownOf w p k → w'.heap[k]? = w.heap[k]? ∧ ¬ ownOf w' p k
section
variable {p q : Nat} {w w' w'' : World}
theorem ownOf.same (h : w'.heap[p]? = w.heap[p]?) {k : Nat} : ownOf w' p k ↔ ownOf w p k := by unfold ownOf; rw [h]
theorem PStep.refl (p : Nat) (w : World) : PStep p w w := ⟨rfl, rfl, rfl, Nat.le_refl _, fun _ _ h => ⟨rfl, h⟩⟩
theorem PStep.trans (h : PStep p w w') (k : PStep p w' w'') : PStep p w w'' :=
  ⟨k.os.trans h.os, k.tape.trans h.tape, k.output.trans h.output, Nat.le_trans h.size k.size, fun i hi hn => by
    obtain ⟨e1, n1⟩ := h.block i hi hn
    obtain ⟨e2, n2⟩ := k.block i (Nat.lt_of_lt_of_le hi h.size) n1
    exact ⟨e2.trans e1, n2⟩⟩
theorem PStep.of_below (hp : p < w.heap.size) (h : Below w.heap.size w w') : PStep p w w' :=
  ⟨h.os, h.tape, h.output, h.size, fun k hk hn => ⟨h.block k hk, fun e => hn ((ownOf.same (h.block p hp)).1 e)⟩⟩
theorem PStep.drewN (h : PStep p w w') (n : Nat) : PStep p w (w'.drewN n) := ⟨h.os, h.tape, h.output, h.size, h.block⟩
theorem PStep.drew (h : PStep p w w') : PStep p w w'.drew := ⟨h.os, h.tape, h.output, h.size, h.block⟩
/-- all that belongs to it lies from B on -/
theorem PStep.below {B : Nat} (h : PStep p w w') (hB : B ≤ w.heap.size) (ho : ∀ k, ownOf w p k → B ≤ k) : Below B w w' :=
  ⟨h.os, h.tape, h.output, h.size, fun k hk => (h.block k (by omega) (fun e => by have := ho k e; omega)).1⟩
/-- two structs share nothing -/
def Apart (w : World) (p q : Nat) : Prop := ∀ k, ownOf w q k → k < w.heap.size ∧ ¬ ownOf w p k
theorem Apart.keep (h : Apart w p q) (hs : PStep p w w') : (∀ k, ownOf w q k → w'.heap[k]? = w.heap[k]?) ∧ Apart w' p q := by
  have h1 : ∀ k, ownOf w q k → w'.heap[k]? = w.heap[k]? := fun k hk => (hs.block k (h k hk).1 (h k hk).2).1
  have hq := h1 q (.inl rfl)
  exact ⟨h1, fun k hk => by
    have hk' := (ownOf.same hq).1 hk
    exact ⟨Nat.lt_of_lt_of_le (h k hk').1 hs.size, (hs.block k (h k hk').1 (h k hk').2).2⟩⟩
end

/-! ### what cells read as -/
/-- k cells read as an x; the reading leans on blocks of S alone -/
structure Rep (α : Type) where
  k : Nat
  rd : (Nat → Prop) → World → α → List Value → Prop
  len : ∀ {S w x cs}, rd S w x cs → cs.length = k
  one : ∀ {S w x cs}, rd S w x cs → ∀ u ∈ cs, u.oneCell' = true
  keep : ∀ {S w w' x cs}, rd S w x cs → (∀ b, b < w.heap.size → S b → w'.heap[b]? = w.heap[b]?) → w.heap.size ≤ w'.heap.size → rd S w' x cs
  mono : ∀ {S S' : Nat → Prop} {w x cs}, rd S w x cs → (∀ b, b < w.heap.size → S b → S' b) → rd S' w x cs
def Rep.int : Rep Int where
  k := 1
  rd _ _ x cs := cs = [.int .i64 x] ∧ -9223372036854775808 ≤ x ∧ x ≤ 9223372036854775807
  len h := by rw [h.1]; rfl
  one h := by rw [h.1]; intro u hu; simp at hu; subst hu; rfl
  keep h _ _ := h
  mono h _ := h
def Rep.bool : Rep Bool where
  k := 1
  rd _ _ x cs := cs = [.bool x]
  len h := by rw [h]; rfl
  one h := by rw [h]; intro u hu; simp at hu; subst hu; rfl
  keep h _ _ := h
  mono h _ := h
def Rep.str : Rep ByteArray where
  k := 1
  rd _ _ x cs := cs = [.string x]
  len h := by rw [h]; rfl
  one h := by rw [h]; intro u hu; simp at hu; subst hu; rfl
  keep h _ _ := h
  mono h _ := h
variable {α β : Type}
def Rep.prod (R : Rep α) (T : Rep β) : Rep (α × β) where
  k := R.k + T.k
  rd S w x cs := ∃ c d, cs = c ++ d ∧ R.rd S w x.1 c ∧ T.rd S w x.2 d
  len h := by obtain ⟨c, d, rfl, h1, h2⟩ := h; rw [List.length_append, R.len h1, T.len h2]
  one h := by
    obtain ⟨c, d, rfl, h1, h2⟩ := h
    intro u hu
    rcases List.mem_append.1 hu with hu | hu
    · exact R.one h1 u hu
    · exact T.one h2 u hu
  keep h hk hs := by obtain ⟨c, d, rfl, h1, h2⟩ := h; exact ⟨c, d, rfl, R.keep h1 hk hs, T.keep h2 hk hs⟩
  mono h hk := by obtain ⟨c, d, rfl, h1, h2⟩ := h; exact ⟨c, d, rfl, R.mono h1 hk, T.mono h2 hk⟩
def Rep.map (f : β → α) (R : Rep α) : Rep β where
  k := R.k
  rd S w x cs := R.rd S w (f x) cs
  len h := R.len h
  one h := R.one h
  keep h := R.keep h
  mono h := R.mono h
/-- The slice with address a and length n reads as xs. -/
def SlR (R : Rep α) (S : Nat → Prop) (w : World) (a : Option Addr) (n : Nat) (xs : List α) : Prop :=
  xs.length = n ∧ (0 < n → ∃ b o, a = some ⟨b, o, none⟩ ∧ b < w.heap.size ∧ S b ∧ ∀ j x, xs[j]? = some x → ∃ cs, R.rd S w x cs ∧ ∀ i u, cs[i]? = some u → w.cell? ⟨b, o + j * R.k + i, none⟩ = some u)
section
variable {R : Rep α} {S S' : Nat → Prop} {w w' : World} {a : Option Addr} {n : Nat} {xs : List α}
theorem SlR.nil (R : Rep α) (S : Nat → Prop) (w : World) (a : Option Addr) : SlR R S w a 0 [] := ⟨rfl, fun h => absurd h (by omega)⟩
theorem SlR.keep (h : SlR R S w a n xs) (hk : ∀ b, b < w.heap.size → S b → w'.heap[b]? = w.heap[b]?) (hs : w.heap.size ≤ w'.heap.size) : SlR R S w' a n xs :=
  ⟨h.1, fun hn => by
    obtain ⟨b, o, ha, hlt, hS, hc⟩ := h.2 hn
    refine ⟨b, o, ha, Nat.lt_of_lt_of_le hlt hs, hS, fun j x hx => ?_⟩
    obtain ⟨cs, h1, h2⟩ := hc j x hx
    exact ⟨cs, R.keep h1 hk hs, fun i u hu => by rw [World.cell?_of_block (w := w) (a := ⟨b, o + j * R.k + i, none⟩) (hk b hlt hS)]; exact h2 i u hu⟩⟩
theorem SlR.mono (h : SlR R S w a n xs) (hk : ∀ b, b < w.heap.size → S b → S' b) : SlR R S' w a n xs :=
  ⟨h.1, fun hn => by
    obtain ⟨b, o, ha, hlt, hS, hc⟩ := h.2 hn
    refine ⟨b, o, ha, hlt, hk b hlt hS, fun j x hx => ?_⟩
    obtain ⟨cs, h1, h2⟩ := hc j x hx
    exact ⟨cs, R.mono h1 hk, h2⟩⟩
theorem SlR.below {B : Nat} (h : SlR R S w a n xs) (hb : Below B w w') (hB : w.heap.size ≤ B) : SlR R S w' a n xs := h.keep (fun b hlt _ => hb.block b (Nat.lt_of_lt_of_le hlt hB)) hb.size
theorem SlR.at (h : SlR R S w a n xs) {j : Nat} {x : α} (hx : xs[j]? = some x) : ∃ b o cs, a = some ⟨b, o, none⟩ ∧ S b ∧ R.rd S w x cs ∧ ∀ i u, cs[i]? = some u → w.cell? ⟨b, o + j * R.k + i, none⟩ = some u := by
  have hj : j < xs.length := (List.getElem?_eq_some_iff.1 hx).1
  obtain ⟨b, o, ha, _, hS, hc⟩ := h.2 (by have := h.1; omega)
  obtain ⟨cs, h1, h2⟩ := hc j x hx
  exact ⟨b, o, cs, ha, hS, h1, h2⟩
end
def Rep.slice (R : Rep α) : Rep (List α) where
  k := 1
  rd S w xs cs := ∃ a n c, cs = [.slice a n c] ∧ n ≤ c ∧ c ≤ maxLen ∧ SlR R S w a n xs
  len h := by obtain ⟨a, n, c, rfl, _⟩ := h; rfl
  one h := by obtain ⟨a, n, c, rfl, _⟩ := h; intro u hu; simp at hu; subst hu; rfl
  keep h hk hs := by obtain ⟨a, n, c, rfl, h1, h2, h3⟩ := h; exact ⟨a, n, c, rfl, h1, h2, h3.keep hk hs⟩
  mono h hk := by obtain ⟨a, n, c, rfl, h1, h2, h3⟩ := h; exact ⟨a, n, c, rfl, h1, h2, h3.mono hk⟩
theorem SlR.toI {S : Nat → Prop} {w : World} {a : Option Addr} {n : Nat} {xs : List Int} (h : SlR Rep.int S w a n xs) : RdI w a n xs := by
  refine ⟨h.1, fun x hx => ?_, fun hn => ?_⟩
  · obtain ⟨j, hj, rfl⟩ := List.getElem_of_mem hx
    obtain ⟨b, o, cs, _, _, h1, _⟩ := h.at (List.getElem?_eq_getElem hj)
    exact h1.2
  · obtain ⟨b, o, ha, hlt, hS, hc⟩ := h.2 hn
    refine ⟨b, o, ha, hlt, fun j hj => ?_⟩
    have hjx : j < xs.length := by have := h.1; omega
    obtain ⟨cs, h1, h2⟩ := hc j _ (List.getElem?_eq_getElem hjx)
    have h3 := h2 0 (.int .i64 xs[j]) (by rw [h1.1]; rfl)
    rw [nth_eq hjx]
    simpa [Rep.int] using h3
theorem SlR.ofI {S : Nat → Prop} {w : World} {a : Option Addr} {n : Nat} {xs : List Int} (h : RdI w a n xs) (hS : ∀ x, 0 < n → a = some x → S x.block) : SlR Rep.int S w a n xs := by
  refine ⟨h.len, fun hn => ?_⟩
  obtain ⟨b, o, ha, hlt, hc⟩ := h.cells hn
  refine ⟨b, o, ha, hlt, hS _ hn ha, fun j x hx => ?_⟩
  have hj : j < xs.length := (List.getElem?_eq_some_iff.1 hx).1
  refine ⟨[.int .i64 x], ⟨rfl, h.wf x (List.mem_of_getElem? hx)⟩, fun i u hu => ?_⟩
  match i with
  | 0 =>
    simp at hu
    subst hu
    have := hc j (by have := h.len; omega)
    rw [nth_eq hj] at this
    simp [Rep.int]
    rw [this]
    congr 1
    congr 1
    have := List.getElem?_eq_getElem hj
    rw [hx] at this
    injection this with this
    exact this.symm
  | i + 1 => simp at hu

/-- A row of one's own reads as xs; the reading of its elements leans on blocks of S. -/
def OwnR (R : Rep α) (S : Nat → Prop) (w : World) (base : Nat) (e : TypeId) (v : Value) (xs : List α) : Prop :=
  ∃ css : List (List Value), OwnC w base e R.k v xs.length css.flatten ∧ css.length = xs.length ∧ ∀ (j : Nat) (x : α), xs[j]? = some x → ∃ cs, css[j]? = some cs ∧ R.rd S w x cs
theorem flat_at {k : Nat} : ∀ {css : List (List Value)} (_ : ∀ cs ∈ css, cs.length = k) {j : Nat} {cs : List Value} (_ : css[j]? = some cs) {i : Nat} {u : Value} (_ : cs[i]? = some u), css.flatten[j * k + i]? = some u
  | c :: css, hl, 0, cs, h, i, u, hu => by
    simp at h
    subst h
    rw [List.flatten_cons, Nat.zero_mul, Nat.zero_add, List.getElem?_append_left (List.getElem?_eq_some_iff.1 hu).1]
    exact hu
  | c :: css, hl, j + 1, cs, h, i, u, hu => by
    have hc := hl c (by simp)
    rw [List.flatten_cons, List.getElem?_append_right (by rw [hc, Nat.succ_mul]; omega), hc, show (j + 1) * k + i - k = j * k + i by rw [Nat.succ_mul]; omega]
    exact flat_at (fun cs h => hl cs (by simp [h])) (by simpa using h) hu
section
variable {R : Rep α} {S S' : Nat → Prop} {w w' : World} {base : Nat} {e : TypeId} {v v' : Value} {xs : List α}
theorem OwnR.nil (R : Rep α) (S : Nat → Prop) (w : World) (base : Nat) (e : TypeId) : OwnR R S w base e (.slice none 0 0) [] := ⟨[], OwnC.nil _ _ _ _, rfl, fun j x h => by simp at h⟩
theorem OwnR.keep (h : OwnR R S w base e v xs) (hk : ∀ b, b < w.heap.size → S b → w'.heap[b]? = w.heap[b]?) (hv : ∀ k, v.ownBlock = some k → w'.heap[k]? = w.heap[k]?) (hs : w.heap.size ≤ w'.heap.size) : OwnR R S w' base e v xs := by
  obtain ⟨css, h1, h2, h3⟩ := h
  refine ⟨css, h1.same hv, h2, fun j x hx => ?_⟩
  obtain ⟨cs, h4, h5⟩ := h3 j x hx
  exact ⟨cs, h4, R.keep h5 hk hs⟩
theorem OwnR.below {B : Nat} (h : OwnR R S w base e v xs) (hb : Below B w w') (hB : w.heap.size ≤ B) : OwnR R S w' base e v xs :=
  h.keep (fun b hlt _ => hb.block b (Nat.lt_of_lt_of_le hlt hB)) (fun k hk => by obtain ⟨css, h1, _⟩ := h; exact hb.block k (Nat.lt_of_lt_of_le (h1.lt k hk).2 hB)) hb.size
theorem OwnR.mono (h : OwnR R S w base e v xs) (hk : ∀ b, b < w.heap.size → S b → S' b) : OwnR R S' w base e v xs := by
  obtain ⟨css, h1, h2, h3⟩ := h
  refine ⟨css, h1, h2, fun j x hx => ?_⟩
  obtain ⟨cs, h4, h5⟩ := h3 j x hx
  exact ⟨cs, h4, R.mono h5 hk⟩
theorem OwnR.lens {css : List (List Value)} (h2 : css.length = xs.length) (h3 : ∀ (j : Nat) (x : α), xs[j]? = some x → ∃ cs, css[j]? = some cs ∧ R.rd S w x cs) : ∀ cs ∈ css, cs.length = R.k := fun cs hc => by
  obtain ⟨j, hj, rfl⟩ := List.getElem_of_mem hc
  obtain ⟨cs, h4, h5⟩ := h3 j _ (List.getElem?_eq_getElem (by omega : j < xs.length))
  rw [List.getElem?_eq_getElem hj] at h4
  injection h4 with h4
  rw [h4]; exact R.len h5
theorem OwnR.slice (h : OwnR R S w base e v xs) : ∃ a c, v = .slice a xs.length c ∧ xs.length ≤ c ∧ c ≤ maxLen := by obtain ⟨css, h1, _⟩ := h; exact h1.slice
theorem OwnR.lt (h : OwnR R S w base e v xs) : ∀ k, v.ownBlock = some k → base ≤ k ∧ k < w.heap.size := by obtain ⟨css, h1, _⟩ := h; exact h1.lt
theorem OwnR.ty (h : OwnR R S w base e v xs) : ∀ k, v.ownBlock = some k → ∃ cs f, w.heap[k]? = some (.cells cs e f) := by obtain ⟨css, h1, _⟩ := h; exact h1.ty
/-- it can be read -/
theorem OwnR.read {a : Option Addr} {n c : Nat} (h : OwnR R S w base e (.slice a n c) xs) (hS : ∀ b, b < w.heap.size → S b → S' b) (ho : ∀ b, Value.ownBlock (.slice a n c) = some b → S' b) : SlR R S' w a n xs := by
  obtain ⟨css, h1, h2, h3⟩ := h
  obtain ⟨a', c', hv, _⟩ := h1.slice
  cases hv
  refine ⟨rfl, fun hn => ?_⟩
  obtain ⟨g, cap, hv, _, hlt⟩ := h1.form hn
  cases hv
  refine ⟨g, 0, rfl, hlt, ho g rfl, fun j x hx => ?_⟩
  obtain ⟨cs, h4, h5⟩ := h3 j x hx
  refine ⟨cs, R.mono h5 hS, fun i u hu => ?_⟩
  rw [Nat.zero_add]
  exact h1.cells (g := g) rfl _ u (flat_at (OwnR.lens h2 h3) h4 hu)
/-- behind an append of one element -/
theorem OwnR.push {x : α} {cs : List Value} {css : List (List Value)} (h2 : css.length = xs.length) (h3 : ∀ (j : Nat) (x : α), xs[j]? = some x → ∃ cs, css[j]? = some cs ∧ R.rd S w x cs) (hx : R.rd S w x cs)
    (ho : OwnC w' base e R.k v' (xs.length + 1) (css.flatten ++ cs)) (hk : ∀ b, b < w.heap.size → S b → w'.heap[b]? = w.heap[b]?) (hs : w.heap.size ≤ w'.heap.size) : OwnR R S w' base e v' (xs ++ [x]) := by
  refine ⟨css ++ [cs], by simpa using ho, by simp [h2], fun j y hy => ?_⟩
  by_cases hj : j < xs.length
  · rw [List.getElem?_append_left hj] at hy
    obtain ⟨ds, h4, h5⟩ := h3 j y hy
    exact ⟨ds, by rw [List.getElem?_append_left (by omega)]; exact h4, R.keep h5 hk hs⟩
  · have hl := (List.getElem?_eq_some_iff.1 hy).1
    rw [List.length_append, List.length_singleton] at hl
    obtain rfl : j = xs.length := by omega
    rw [List.getElem?_append_right (Nat.le_refl _)] at hy
    simp at hy
    subst hy
    exact ⟨cs, by rw [← h2]; simp, R.keep hx hk hs⟩
/-- 'v[:k:c]' -/
theorem OwnR.cut {a : Option Addr} {n c c' k : Nat} (h : OwnR R S w base e (.slice a n c) xs) (hk : k ≤ n) (hc1 : k ≤ c') (hc2 : c' ≤ c) : OwnR R S w base e (.slice a k c') (xs.take k) := by
  obtain ⟨css, h1, h2, h3⟩ := h
  obtain ⟨a', c'', hv, _⟩ := h1.slice
  cases hv
  have hl : (xs.take k).length = k := by rw [List.length_take]; omega
  refine ⟨css.take k, ?_, by rw [List.length_take, List.length_take, h2], fun j x hx => ?_⟩
  · rw [hl]
    have h5 := h1.cut hk hc1 hc2
    rw [show css.flatten.take (k * R.k) = (css.take k).flatten by
      have : ∀ (css : List (List Value)) (k : Nat), (∀ cs ∈ css, cs.length = R.k) → css.flatten.take (k * R.k) = (css.take k).flatten := by
        intro css
        induction css with
        | nil => intro k _; simp
        | cons c css ih =>
          intro k hl
          cases k with
          | zero => simp
          | succ k =>
            have hc := hl c (by simp)
            rw [List.take_succ_cons, List.flatten_cons, List.flatten_cons, List.take_append, List.take_of_length_le (by rw [hc, Nat.succ_mul]; omega), hc, show (k + 1) * R.k - R.k = k * R.k by rw [Nat.succ_mul]; omega, ih k (fun cs h => hl cs (by simp [h]))]
      exact this css k (OwnR.lens h2 h3)] at h5
    exact h5
  · have hj := (List.getElem?_eq_some_iff.1 hx).1
    rw [hl] at hj
    rw [List.getElem?_take_of_lt hj] at hx
    obtain ⟨cs, h4, h5⟩ := h3 j x hx
    exact ⟨cs, by rw [List.getElem?_take_of_lt hj]; exact h4, h5⟩
end
end Go.Proofs.YtikmkalfdiiahaaGreatDoor

/-
  Maps keyed by string, whatever their elements: 'MapS P k b n F w': block b is a map of n entries that holds F x at key x. What lookups, len, store and delete come to, as equations on the operation's run. No program. Conditions: keys are strings of fewer than 2^62 bytes.
-/
namespace Go.Proofs.YtikmkalfdiiahaaGreatDoor
open Go.RowKit Go.Maps

/-- An element as it is: a token that is the value itself. -/
def rawElemS (v : Value) : Option (DataW Value × List MemPlace) := some (.held v, [])
def keyS (x : ByteArray) : Lit := .string x.data.toList
def okS (x : ByteArray) : Prop := x.size ≤ maxLen
theorem keyS_lit (x : ByteArray) : WideAt.IsKeyLit (keyS x) := by simp [keyS, WideAt.IsKeyLit]
theorem keyS_ne {x y : ByteArray} (h : x ≠ y) : keyS x ≠ keyS y := fun e => h (by
  have e2 : x.data.toList = y.data.toList := by simpa [keyS] using e
  obtain ⟨a⟩ := x
  obtain ⟨b⟩ := y
  simp at e2
  rw [e2])

def MapS (P : Program) (k : TypeId) (b n : Nat) (F : ByteArray → Option Value) (w : World) : Prop :=
  ∃ D : DataW Value, w.ownsMap P k rawElemS b n D ∧ Maps.size D = n ∧ ∀ x, Maps.has D (keyS x) = (F x).isSome ∧ ∀ z, D.atKey (keyS x) (.held z) = .held ((F x).getD z)

/-- F with v at key x -/
def updS (F : ByteArray → Option Value) (x : ByteArray) (v : Option Value) : ByteArray → Option Value := fun y => if y = x then v else F y
theorem updS_same (F : ByteArray → Option Value) (x : ByteArray) (v : Option Value) : updS F x v x = v := by simp [updS]
theorem updS_other (F : ByteArray → Option Value) {x y : ByteArray} (v : Option Value) (h : y ≠ x) : updS F x v y = F y := by simp [updS, h]

variable {P : Program} {k t e : TypeId} {b n : Nat} {F : ByteArray → Option Value} {w w' : World}

theorem MapS.lt (h : MapS P k b n F w) : b < w.heap.size := by obtain ⟨D, h, _⟩ := h; exact h.lt
theorem MapS.made (w : World) : MapS P k w.heap.size 0 (fun _ => none) (w.alloc (.map #[] 0)) :=
  ⟨.map [], World.ownsMap_made w P k rawElemS, rfl, fun _ => ⟨rfl, fun _ => rfl⟩⟩
theorem MapS.kept {row : Option Nat} (h : MapS P k b n F w) (hg : w.grownBy w' row) (hne : some b ≠ row) : MapS P k b n F w' := by
  obtain ⟨D, h1, h2⟩ := h; exact ⟨D, h1.kept hg hne, h2⟩
theorem MapS.same (h : MapS P k b n F w) (hb : w'.heap[b]? = w.heap[b]?) : MapS P k b n F w' := by
  obtain ⟨D, ⟨es, clock, hb', r⟩, h2⟩ := h; exact ⟨D, ⟨es, clock, hb.trans hb', r⟩, h2⟩
theorem MapS.setCell (h : MapS P k b n F w) {a : Addr} (ha : b ≠ a.block) (u : Value) : MapS P k b n F (w.setCell a u) := by
  obtain ⟨D, h1, h2⟩ := h; exact ⟨D, h1.setCell ha u, h2⟩
theorem MapS.drewN (h : MapS P k b n F w) (q : Nat) : MapS P k b n F (w.drewN q) := h

theorem MapS.look (h : MapS P k b n F w) (hk : P.underlying k = some .string) (ht : P.underlying t = some (.map k e)) {z : Value} (hz : (zeroValue e).run P w = .ok z w) {x : ByteArray} (hx : okS x) :
    (Instr.lookup t (.map (some b)) (.string x) false).run P w = .ok ((F x).getD z) w := by
  obtain ⟨D, h1, h2, h3⟩ := h
  obtain ⟨v, ps, hrun, hv⟩ := h1.lookup (string_keyed hk) ht hz (zd := .held z) (zp := []) rfl (WideMaps.keyOf_string_mk hk hx)
  have e1 := (h3 x).2 z
  unfold keyS at e1
  rw [e1] at hv
  simp only [rawElemS, Option.some.injEq, Prod.mk.injEq, DataW.held.injEq] at hv
  rw [hrun, hv.1]
theorem MapS.look_ok (h : MapS P k b n F w) (hk : P.underlying k = some .string) (ht : P.underlying t = some (.map k e)) {z : Value} (hz : (zeroValue e).run P w = .ok z w) {x : ByteArray} (hx : okS x) :
    (Instr.lookup t (.map (some b)) (.string x) true).run P w = .ok (.tuple #[(F x).getD z, .bool (F x).isSome]) w := by
  obtain ⟨D, h1, h2, h3⟩ := h
  obtain ⟨v, ps, hrun, hv⟩ := h1.look_ok (string_keyed hk) ht hz (zd := .held z) (zp := []) rfl (WideMaps.keyOf_string_mk hk hx)
  have e1 := (h3 x).2 z
  have e2 := (h3 x).1
  unfold keyS at e1 e2
  rw [e1] at hv
  rw [e2] at hrun
  simp only [rawElemS, Option.some.injEq, Prod.mk.injEq, DataW.held.injEq] at hv
  rw [hrun, hv.1]
theorem MapS.len (h : MapS P k b n F w) (ht : P.underlying t = some (.map k e)) (ty : TypeId) : (Builtin.len_ #[t] ty #[.map (some b)]).run P w = .ok (.int .i64 n) w := by
  obtain ⟨D, h1, h2, h3⟩ := h
  rw [h1.len ht ty, h2]
theorem MapS.store (h : MapS P k b n F w) (hk : P.underlying k = some .string) (ht : P.underlying t = some (.map k e)) (hn : n < maxLen) {x : ByteArray} (hx : okS x) (v : Value) :
    ∃ w', (Instr.mapUpdate t (.map (some b)) (.string x) v).run P w = .ok () w' ∧ MapS P k b (if (F x).isSome then n else n + 1) (updS F x (some v)) w' ∧ w.mapTurned w' b := by
  obtain ⟨D, h1, h2, h3⟩ := h
  obtain ⟨w', hrun, ho, hg⟩ := h1.store (string_keyed hk) ht hn (WideMaps.keyOf_string_mk hk hx) (d := .held v) (ps := []) (val := v) rfl
  have hs := size_put (h1.tidy (string_keyed hk)) (k := keyS x) (.held v)
  rw [(h3 x).1, h2] at hs
  refine ⟨w', hrun, ⟨D.put (keyS x) (.held v), ?_, hs, fun y => ?_⟩, hg⟩
  · obtain ⟨es, clock, a1, a2, a3, a4⟩ := ho
    refine ⟨es, clock, a1, a2, ?_, a4⟩
    have e1 : Maps.size (D.put (keyS x) (.held v)) = es.size := by
      show Maps.size (D.put (.string x.data.toList) (.held v)) = es.size
      rw [a4]; simp [Maps.size, length_sorted]
    rw [← e1, hs]
    exact Nat.le_refl _
  · by_cases hy : y = x
    · subst hy
      rw [updS_same]
      exact ⟨has_put_same h1.isMap (keyS_lit y) _, fun z => by rw [atKey_put_same h1.isMap (keyS_lit y)]; rfl⟩
    · rw [updS_other F _ hy]
      exact ⟨by rw [has_put_other (keyS_ne hy)]; exact (h3 y).1, fun z => by rw [atKey_put_other (keyS_ne hy)]; exact (h3 y).2 z⟩
theorem MapS.drop (h : MapS P k b n F w) (hk : P.underlying k = some .string) (ht : P.underlying t = some (.map k e)) {x : ByteArray} (hx : okS x) (ty : TypeId) :
    ∃ w', (Builtin.delete_ #[t, k] ty #[.map (some b), .string x]).run P w = .ok (.tuple #[]) w' ∧ MapS P k b (if (F x).isSome then n - 1 else n) (updS F x none) w' ∧ w.mapTurned w' b := by
  obtain ⟨D, h1, h2, h3⟩ := h
  obtain ⟨w', hrun, ho, hg⟩ := h1.drop (string_keyed hk) ht (WideMaps.keyOf_string_mk hk hx) ty
  have hs := size_del (h1.tidy (string_keyed hk)) (k := keyS x)
  rw [(h3 x).1, h2] at hs
  have hs' : Maps.size (D.del (keyS x)) = if (F x).isSome then n - 1 else n := by split at hs <;> simp_all <;> omega
  refine ⟨w', hrun, ⟨D.del (keyS x), ?_, hs', fun y => ?_⟩, hg⟩
  · obtain ⟨es, clock, a1, a2, a3, a4⟩ := ho
    refine ⟨es, clock, a1, a2, ?_, a4⟩
    have e1 : Maps.size (D.del (keyS x)) = es.size := by
      show Maps.size (D.del (.string x.data.toList)) = es.size
      rw [a4]; simp [Maps.size, length_sorted]
    rw [← e1, hs']
    exact Nat.le_refl _
  · by_cases hy : y = x
    · subst hy
      rw [updS_same]
      exact ⟨has_del_same, fun z => by rw [atKey_del_same]; rfl⟩
    · rw [updS_other F _ hy]
      exact ⟨by rw [has_del_other (keyS_ne hy)]; exact (h3 y).1, fun z => by rw [atKey_del_other (keyS_ne hy)]; exact (h3 y).2 z⟩
end Go.Proofs.YtikmkalfdiiahaaGreatDoor

/-
  Maps keyed by int, whatever their elements: 'MapV P k b n F w': block b is a map of n entries that holds F x at key x. What lookups, len, store and delete come to, as equations on the operation's run. No program. Conditions: keys are ints.
-/
namespace Go.Proofs.YtikmkalfdiiahaaGreatDoor
open Go.RowKit Go.Maps

/-- An element as it is: a token that is the value itself. -/
def rawElem (v : Value) : Option (DataW Value × List MemPlace) := some (.held v, [])
def keyI (x : Int) : Lit := .int .i64 x
def okJ (x : Int) : Prop := -9223372036854775808 ≤ x ∧ x ≤ 9223372036854775807
theorem wf_key {x : Int} (h : okJ x) : (Lit.int .i64 x).wf = true := WalkArith.wf_i64 (by unfold okJ at h; omega)
theorem keyI_lit (x : Int) : WideAt.IsKeyLit (keyI x) := by simp [keyI, WideAt.IsKeyLit]
theorem keyI_ne {x y : Int} (h : x ≠ y) : keyI x ≠ keyI y := by intro e; cases e; exact h rfl

def MapV (P : Program) (k : TypeId) (b n : Nat) (F : Int → Option Value) (w : World) : Prop :=
  ∃ D : DataW Value, w.ownsMap P k rawElem b n D ∧ Maps.size D = n ∧ ∀ x, Maps.has D (keyI x) = (F x).isSome ∧ ∀ z, D.atKey (keyI x) (.held z) = .held ((F x).getD z)

/-- F with v at key x -/
def upd (F : Int → Option Value) (x : Int) (v : Option Value) : Int → Option Value := fun y => if y = x then v else F y
theorem upd_same (F : Int → Option Value) (x : Int) (v : Option Value) : upd F x v x = v := by simp [upd]
theorem upd_other (F : Int → Option Value) {x y : Int} (v : Option Value) (h : y ≠ x) : upd F x v y = F y := by simp [upd, h]

variable {P : Program} {k t e : TypeId} {b n : Nat} {F : Int → Option Value} {w w' : World}

theorem MapV.lt (h : MapV P k b n F w) : b < w.heap.size := by obtain ⟨D, h, _⟩ := h; exact h.lt
theorem MapV.made (w : World) : MapV P k w.heap.size 0 (fun _ => none) (w.alloc (.map #[] 0)) :=
  ⟨.map [], World.ownsMap_made w P k rawElem, rfl, fun _ => ⟨rfl, fun _ => rfl⟩⟩
theorem MapV.kept {row : Option Nat} (h : MapV P k b n F w) (hg : w.grownBy w' row) (hne : some b ≠ row) : MapV P k b n F w' := by
  obtain ⟨D, h1, h2⟩ := h; exact ⟨D, h1.kept hg hne, h2⟩
theorem MapV.same (h : MapV P k b n F w) (hb : w'.heap[b]? = w.heap[b]?) : MapV P k b n F w' := by
  obtain ⟨D, ⟨es, clock, hb', r⟩, h2⟩ := h; exact ⟨D, ⟨es, clock, hb.trans hb', r⟩, h2⟩
theorem MapV.setCell (h : MapV P k b n F w) {a : Addr} (ha : b ≠ a.block) (u : Value) : MapV P k b n F (w.setCell a u) := by
  obtain ⟨D, h1, h2⟩ := h; exact ⟨D, h1.setCell ha u, h2⟩
theorem MapV.drewN (h : MapV P k b n F w) (q : Nat) : MapV P k b n F (w.drewN q) := h

theorem MapV.look (h : MapV P k b n F w) (hk : P.underlying k = some (.int .i64)) (ht : P.underlying t = some (.map k e)) {z : Value} (hz : (zeroValue e).run P w = .ok z w) {x : Int} (hx : okJ x) :
    (Instr.lookup t (.map (some b)) (.int .i64 x) false).run P w = .ok ((F x).getD z) w := by
  obtain ⟨D, h1, h2, h3⟩ := h
  obtain ⟨v, ps, hrun, hv⟩ := h1.lookup (int_keyed hk) ht hz (zd := .held z) (zp := []) rfl (keyOf_int_mk hk (wf_key hx))
  have e1 := (h3 x).2 z
  unfold keyI at e1
  rw [e1] at hv
  simp only [rawElem, Option.some.injEq, Prod.mk.injEq, DataW.held.injEq] at hv
  rw [hrun, hv.1]
theorem MapV.look_ok (h : MapV P k b n F w) (hk : P.underlying k = some (.int .i64)) (ht : P.underlying t = some (.map k e)) {z : Value} (hz : (zeroValue e).run P w = .ok z w) {x : Int} (hx : okJ x) :
    (Instr.lookup t (.map (some b)) (.int .i64 x) true).run P w = .ok (.tuple #[(F x).getD z, .bool (F x).isSome]) w := by
  obtain ⟨D, h1, h2, h3⟩ := h
  obtain ⟨v, ps, hrun, hv⟩ := h1.look_ok (int_keyed hk) ht hz (zd := .held z) (zp := []) rfl (keyOf_int_mk hk (wf_key hx))
  have e1 := (h3 x).2 z
  have e2 := (h3 x).1
  unfold keyI at e1 e2
  rw [e1] at hv
  rw [e2] at hrun
  simp only [rawElem, Option.some.injEq, Prod.mk.injEq, DataW.held.injEq] at hv
  rw [hrun, hv.1]
theorem MapV.len (h : MapV P k b n F w) (ht : P.underlying t = some (.map k e)) (ty : TypeId) : (Builtin.len_ #[t] ty #[.map (some b)]).run P w = .ok (.int .i64 n) w := by
  obtain ⟨D, h1, h2, h3⟩ := h
  rw [h1.len ht ty, h2]
theorem MapV.store (h : MapV P k b n F w) (hk : P.underlying k = some (.int .i64)) (ht : P.underlying t = some (.map k e)) (hn : n < maxLen) {x : Int} (hx : okJ x) (v : Value) :
    ∃ w', (Instr.mapUpdate t (.map (some b)) (.int .i64 x) v).run P w = .ok () w' ∧ MapV P k b (if (F x).isSome then n else n + 1) (upd F x (some v)) w' ∧ w.mapTurned w' b := by
  obtain ⟨D, h1, h2, h3⟩ := h
  obtain ⟨w', hrun, ho, hg⟩ := h1.store (int_keyed hk) ht hn (keyOf_int_mk hk (wf_key hx)) (d := .held v) (ps := []) (val := v) rfl
  have hs := size_put (h1.tidy (int_keyed hk)) (k := keyI x) (.held v)
  rw [(h3 x).1, h2] at hs
  refine ⟨w', hrun, ⟨D.put (keyI x) (.held v), ?_, hs, fun y => ?_⟩, hg⟩
  · obtain ⟨es, clock, a1, a2, a3, a4⟩ := ho
    refine ⟨es, clock, a1, a2, ?_, a4⟩
    have e1 : Maps.size (D.put (keyI x) (.held v)) = es.size := by
      show Maps.size (D.put (.int .i64 x) (.held v)) = es.size
      rw [a4]; simp [Maps.size, length_sorted]
    rw [← e1, hs]
    exact Nat.le_refl _
  · by_cases hy : y = x
    · subst hy
      rw [upd_same]
      exact ⟨has_put_same h1.isMap (keyI_lit y) _, fun z => by rw [atKey_put_same h1.isMap (keyI_lit y)]; rfl⟩
    · rw [upd_other F _ hy]
      exact ⟨by rw [has_put_other (keyI_ne hy)]; exact (h3 y).1, fun z => by rw [atKey_put_other (keyI_ne hy)]; exact (h3 y).2 z⟩
theorem MapV.drop (h : MapV P k b n F w) (hk : P.underlying k = some (.int .i64)) (ht : P.underlying t = some (.map k e)) {x : Int} (hx : okJ x) (ty : TypeId) :
    ∃ w', (Builtin.delete_ #[t, k] ty #[.map (some b), .int .i64 x]).run P w = .ok (.tuple #[]) w' ∧ MapV P k b (if (F x).isSome then n - 1 else n) (upd F x none) w' ∧ w.mapTurned w' b := by
  obtain ⟨D, h1, h2, h3⟩ := h
  obtain ⟨w', hrun, ho, hg⟩ := h1.drop (int_keyed hk) ht (keyOf_int_mk hk (wf_key hx)) ty
  have hs := size_del (h1.tidy (int_keyed hk)) (k := keyI x)
  rw [(h3 x).1, h2] at hs
  have hs' : Maps.size (D.del (keyI x)) = if (F x).isSome then n - 1 else n := by split at hs <;> simp_all <;> omega
  refine ⟨w', hrun, ⟨D.del (keyI x), ?_, hs', fun y => ?_⟩, hg⟩
  · obtain ⟨es, clock, a1, a2, a3, a4⟩ := ho
    refine ⟨es, clock, a1, a2, ?_, a4⟩
    have e1 : Maps.size (D.del (keyI x)) = es.size := by
      show Maps.size (D.del (.int .i64 x)) = es.size
      rw [a4]; simp [Maps.size, length_sorted]
    rw [← e1, hs']
    exact Nat.le_refl _
  · by_cases hy : y = x
    · subst hy
      rw [upd_same]
      exact ⟨has_del_same, fun z => by rw [atKey_del_same]; rfl⟩
    · rw [upd_other F _ hy]
      exact ⟨by rw [has_del_other (keyI_ne hy)]; exact (h3 y).1, fun z => by rw [atKey_del_other (keyI_ne hy)]; exact (h3 y).2 z⟩
end Go.Proofs.YtikmkalfdiiahaaGreatDoor

/-
  A region that draws its order, whose last operations (from number n on, in a forced order) wait for all others: before them a condition S on the world is held, behind them nothing is asked of it. So an operation that yields its value in every world that meets S may be taken first although the region's last operation stores into what it read. No program. No condition.
-/
namespace Go
section
variable {P : Program} {ops : Array Oper} {Q : Exit → Act → World → Prop} {md : Region.Mode} {S : World → Prop}

/-- whatever order is picked of the f operations ahead of number n that are left, S holding behind each; then the g last ones in their order -/
def wpAnyT (P : Program) (md : Region.Mode) (ops : Array Oper) (Q : Exit → Act → World → Prop) (S : World → Prop) (n g : Nat) : Nat → Array Bool → Act → World → Prop
  | 0, listed, a, w => Region.seqB md ops g n listed = true ∧ wpList P ops Q (ops.toList.drop n) a w
  | f + 1, listed, a, w => Region.ready md ops listed ≠ [] ∧ ∀ i ∈ Region.ready md ops listed, i < n ∧ wpOp P ops Q i (fun a' w' => S w' ∧ wpAnyT P md ops Q S n g f (listed.setIfInBounds i true) a' w') a w

theorem wpAny_of_T {n g : Nat} (hg : (ops.toList.drop n).length = g) : ∀ (f : Nat) (listed : Array Bool) (a : Act) (w : World), wpAnyT P md ops Q S n g f listed a w → wpAny P md ops Q (f + g) listed a w
  | 0, listed, a, w, h => by
    rw [Nat.zero_add]
    have := wpAny_of_seq (P := P) (md := md) (Q' := Q) (ops.toList.drop n) n listed a w (fun j => by simp [List.getElem?_drop]) (by rw [hg]; exact h.1) h.2
    rwa [hg] at this
  | f + 1, listed, a, w, h => by
    rw [show f + 1 + g = (f + g) + 1 by omega]
    exact ⟨fun h0 => absurd h0 h.1, fun i hi => wpOp_mono (fun a' w' h' => wpAny_of_T hg f _ a' w' h'.2) (h.2 i hi).2⟩

theorem wpAnyT_first {n g i : Nat} {oi : Oper} {v : Value} (hi : ops[i]? = some oi) (hsel : ∀ (j : Nat) (o : Oper) cs b, ops[j]? = some o → o.op ≠ .select cs b)
    (hQ : ∀ c a w, Q (.panic c) (a.put oi.dst v) w → Q (.panic c) a w) (hs : Region.sinkB md ops n = true) (hc : Region.chainB md ops n = true) (hn : n < ops.size) (hin : i < n) :
    ∀ (f : Nat) (listed : Array Bool) (a : Act) (w : World), HeadInv md ops n listed →
      (∀ j oj, ops[j]? = some oj → j ≠ i → listed.getD j true = false → (∀ e ∈ oj.after, Region.binds md e = true → e.on ≠ i) → oi.apart ops oj = true) →
      i ∈ Region.ready md ops listed → YieldsIf P ops S oi v a → S w →
      wpAnyT P md ops Q S n g f (listed.setIfInBounds i true) (a.put oi.dst v) w → wpAnyT P md ops Q S n g (f + 1) listed a w := by
  intro f
  induction f with
  | zero =>
    intro listed a w inv _ hr hy hS H
    have hun := (mem_ready.1 hr).1
    refine ⟨fun h => (by rw [h] at hr; cases hr), fun j hj => ?_⟩
    have hjn : j < n := by
      rcases Nat.lt_or_ge j n with h | h
      · exact h
      · exact absurd hj (tail_waits hs hc hn inv _ i rfl hin hun j h)
    refine ⟨hjn, ?_⟩
    by_cases hji : j = i
    · subst hji; exact hy.wpOp hi hS ⟨hS, H⟩
    · have := seqB_ready H.1 j (ready_mono hj hji)
      omega
  | succ f ih =>
    intro listed a w inv hfree hr hy hS H
    have hun := (mem_ready.1 hr).1
    refine ⟨fun h => (by rw [h] at hr; cases hr), fun j hj => ?_⟩
    have hjn : j < n := by
      rcases Nat.lt_or_ge j n with h | h
      · exact h
      · exact absurd hj (tail_waits hs hc hn inv _ i rfl hin hun j h)
    refine ⟨hjn, ?_⟩
    by_cases hji : j = i
    · subst hji; exact hy.wpOp hi hS ⟨hS, H⟩
    · have h1 := (H.2 j (ready_mono hj hji)).2
      obtain ⟨hjun, oj, hoj, hall⟩ := mem_ready.1 hj
      have hnot : ∀ e ∈ oj.after, Region.binds md e = true → e.on ≠ i := fun e he hb heq => by
        have h1 := hall e he hb
        rw [heq, getD_both hun] at h1
        cases h1
      have h2 := wpOp_putIf hoj (hfree j oj hoj hji hjun hnot) (fun cs b => hsel i oi cs b hi) (fun cs b => hsel j oj cs b hoj) hQ hy h1
      have hfree' : ∀ k ok, ops[k]? = some ok → k ≠ i → (listed.setIfInBounds j true).getD k true = false →
          (∀ e ∈ ok.after, Region.binds md e = true → e.on ≠ i) → oi.apart ops ok = true := fun k ok hk hki hun hno => by
        refine hfree k ok hk hki ?_ hno
        by_cases hjk : j = k
        · subst hjk; exact hjun
        · rw [getD_set_ne true hjk] at hun; exact hun
      refine wpOp_mono (fun a' w' h3 => ⟨h3.2.1, ih (listed.setIfInBounds j true) a' w' (inv.set hj hjn) hfree' (ready_mono hr (Ne.symm hji)) h3.1 h3.2.1 ?_⟩) h2
      rw [Array.setIfInBounds_comm _ _ hji]
      exact h3.2.2

/-- what is known of the region -/
def TailOk (md : Region.Mode) (ops : Array Oper) (n : Nat) : Bool := Region.noSelect ops && decide (n < ops.size) && Region.sinkB md ops n && Region.chainB md ops n
/-- the walk's goal -/
def TT (P : Program) (md : Region.Mode) (ops : Array Oper) (Q : Exit → Act → World → Prop) (S : World → Prop) (n g f : Nat) (listed : Array Bool) (a : Act) (w : World) : Prop :=
  TailOk md ops n = true → HeadInv md ops n listed → wpAnyT P md ops Q S n g f listed a w
theorem tailOk {n : Nat} (h : TailOk md ops n = true) : Region.noSelect ops = true ∧ n < ops.size ∧ Region.sinkB md ops n = true ∧ Region.chainB md ops n = true := by
  simp only [TailOk, Bool.and_eq_true, decide_eq_true_eq] at h
  exact ⟨h.1.1.1, h.1.1.2, h.1.2, h.2⟩
section
variable {n g f i : Nat} {listed : Array Bool} {a : Act} {w : World}
/-- take number i first -/
theorem tt_take {oi : Oper} {v : Value} (hi : ops.toList[i]? = some oi) (hB : (decide (i < n) && Region.free md ops listed i && (Region.ready md ops listed).contains i) = true)
    (hQ : ∀ c a w, Q (.panic c) (a.put oi.dst v) w → Q (.panic c) a w) (hy : YieldsIf P ops S oi v a) (hS : S w)
    (h : TT P md ops Q S n g f (listed.setIfInBounds i true) (a.put oi.dst v) w) : TT P md ops Q S n g (f + 1) listed a w := fun hT inv => by
  obtain ⟨h1, h2, h3, h4⟩ := tailOk hT
  simp only [Bool.and_eq_true, decide_eq_true_eq] at hB
  have hr : i ∈ Region.ready md ops listed := by simpa using hB.2
  have hi' : ops[i]? = some oi := by simpa using hi
  exact wpAnyT_first hi' (Region.noSelect_spec h1) hQ h3 h4 h2 hB.1.1 f listed a w inv (Region.free_spec hi' hB.1.2) hr hy hS (h hT (inv.set hr hB.1.1))
/-- each of the operations rs comes up next -/
def AllT (P : Program) (md : Region.Mode) (ops : Array Oper) (Q : Exit → Act → World → Prop) (S : World → Prop) (n g f : Nat) (listed : Array Bool) (a : Act) (w : World) (rs : List Nat) : Prop :=
  ∀ i ∈ rs, wpOp P ops Q i (fun a' w' => S w' ∧ TT P md ops Q S n g f (listed.setIfInBounds i true) a' w') a w
theorem allT_nil : AllT P md ops Q S n g f listed a w [] := fun _ h => by cases h
theorem allT_cons {o : Oper} {rs : List Nat} (ho : ops.toList[i]? = some o)
    (h : ∀ K' : Act → World → Prop, Shut (∀ a w, S w → (S w → TT P md ops Q S n g f (listed.setIfInBounds i true) a w) → K' a w) → if Region.wanted o (yielded ops a.tmps) = true then Oper.wp P o a w K' Q else K' (a.put o.dst undef) w)
    (hs : AllT P md ops Q S n g f listed a w rs) : AllT P md ops Q S n g f listed a w (i :: rs) := fun j hj => by
  rcases List.mem_cons.1 hj with rfl | hj
  · exact wpOp_step (by simpa using ho) (fun K' hK => h K' (fun a w hS hW => hK a w ⟨hS, hW hS⟩))
  · exact hs j hj
theorem tt_ready {rs : List Nat} (hr : (decide (Region.ready md ops listed = rs) && rs.all (fun i => decide (i < n)) && !rs.isEmpty) = true) (h : AllT P md ops Q S n g f listed a w rs) : TT P md ops Q S n g (f + 1) listed a w := fun hT inv => by
  simp only [Bool.and_eq_true, decide_eq_true_eq, List.all_eq_true, Bool.not_eq_true'] at hr
  obtain ⟨⟨h1, h2⟩, h3⟩ := hr
  refine ⟨fun h0 => (by rw [← h1, h0] at h3; cases h3), fun j hj => ?_⟩
  have hj' : j ∈ rs := by rw [← h1]; exact hj
  exact ⟨h2 j hj', wpOp_mono (fun a' w' h' => ⟨h'.1, h'.2 hT (inv.set hj (h2 j hj'))⟩) (h j hj')⟩
/-- the last ones -/
theorem tt_tail (hB : Region.seqB md ops g n listed = true) (h : wpList P ops Q (ops.toList.drop n) a w) : TT P md ops Q S n g 0 listed a w := fun _ _ => ⟨hB, h⟩
end
/-- the beginning -/
theorem wp_region_tt {id : Nat} {l : List Oper} {a : Act} {w : World} (n : Nat) (hm : P.follows .mixedOrders = true) (hB : TailOk .any l.toArray n = true) (hS : S w.drew)
    (h : S w.drew → TT P .any l.toArray Q S n (l.length - n) n (Array.replicate l.length false) a w.drew) : (Code.region id l.toArray true).wp P Q a w := by
  obtain ⟨_, hn, _, _⟩ := tailOk hB
  have hn' : n < l.length := by simpa using hn
  have inv0 : HeadInv .any l.toArray n (Array.replicate l.length false) :=
    ⟨by simp, fun j oj _ hl => (by rw [getD_replicate_false] at hl; cases hl), fun t _ ht => getD_in (by simpa using ht) (getD_replicate_false _ _)⟩
  refine wp_region_any hm ?_
  have := wpAny_of_T (P := P) (S := S) (g := l.length - n) (by simp) _ _ _ _ (h hS hB inv0)
  rw [show n + (l.length - n) = l.length by omega] at this
  simpa using this
end
end Go

/-
  Words for regions that lay literals and append to them, in whatever order: a literal of no element as a row of one's own ('OwnC.lit0'), the cells of a literal ('CellsF'), what stays behind an alloc and behind an append to a new row ('keep_alloc', 'keep_push'), the parts of a slice as what is appended ('Src'). No program. No condition.
-/
namespace Go.Proofs.YtikmkalfdiiahaaGreatDoor
open Go.RowKit Go.Lib

section
variable {w W W' w0 : World} {base base' g size n : Nat} {e : TypeId} {v : Value} {xs us : List Value}
theorem OwnC.lit0 (hg : g = w.heap.size) (hb : base ≤ w.heap.size) : OwnC (w.alloc (.cells #[] e)) base e size (.slice (some ⟨g, 0, none⟩) 0 0) 0 [] := by
  subst hg
  refine ⟨by simp, .inr ⟨w.heap.size, 0, #[], rfl, hb, ?_, Nat.le_refl _, Nat.zero_le _, by simp, by simp⟩⟩
  show (w.heap.push _)[w.heap.size]? = _
  simp
theorem OwnC.lower (h : OwnC w base e size v n xs) (hb : base' ≤ base) : OwnC w base' e size v n xs :=
  ⟨h.1, h.2.imp id fun ⟨g, cap, cur, h1, h2, h3⟩ => ⟨g, cap, cur, h1, Nat.le_trans hb h2, h3⟩⟩
theorem OwnC.drew0 (h : OwnC w base e size v n xs) : OwnC w.drew base e size v n xs := h.same fun _ _ => rfl
theorem OwnC.drewN (h : OwnC w base e size v n xs) (q : Nat) : OwnC (w.drewN q) base e size v n xs := h.same fun _ _ => rfl
/-- the cells of a literal that lies in block s -/
def CellsF (w : World) (s : Nat) (us : List Value) : Prop := ∀ (j : Nat) (u : Value), us[j]? = some u → w.cell? ⟨s, j, none⟩ = some u
theorem CellsF.lit {s : Nat} (hs : s = w.heap.size) : CellsF (w.alloc (.cells us.toArray e)) s us := fun j u hu => by
  subst hs; rw [World.cell?_alloc_new]; simpa using hu
theorem CellsF.lit1 {s : Nat} {u : Value} (hs : s = w.heap.size) : CellsF (w.alloc (.cells #[u] e)) s [u] := CellsF.lit (us := [u]) hs
theorem CellsF.more {s : Nat} (h : CellsF w s us) (o : Obj) : CellsF (w.alloc o) s us := fun j u hu => by
  have := h j u hu
  rw [World.cell?_alloc_lt _ _ _ (World.block_lt_of_cell? w _ this)]; exact this
theorem CellsF.push {s : Nat} {row : Option Nat} (hg : W.grownBy W' row) (h : CellsF W s us) (hr : row ≠ some s) : CellsF W' s us := fun j u hu => by
  have := h j u hu
  rw [World.cell?_of_block (w := W) (a := ⟨s, j, none⟩) (hg.block s (World.block_lt_of_cell? W _ this) (Ne.symm hr))]; exact this
theorem Src.lit {s : Nat} (h : CellsF w s us) (hl : us.length = size) : Src w size (some ⟨s, 0, none⟩) 1 us := Src.one hl h
/-- what is held through such a region: all old blocks -/
theorem keep_drew (w0 : World) : Below w0.heap.size w0 w0.drew := ⟨rfl, rfl, rfl, Nat.le_refl _, fun _ _ => rfl⟩
theorem keep_alloc (h : Below w0.heap.size w0 W) (o : Obj) : Below w0.heap.size w0 (W.alloc o) := h.alloc h.size o
theorem keep_push {row : Option Nat} (h : Below w0.heap.size w0 W) (hg : W.grownBy W' row) (hr : ∀ k, row = some k → w0.heap.size ≤ k) : Below w0.heap.size w0 W' := h.grown hg h.size hr
theorem keep_cell {p : Addr} {u : Value} (h : Below w0.heap.size w0 W) (hc : w0.cell? p = some u) : W.cell? p = some u := by
  rw [h.cell (p := p) (World.block_lt_of_cell? w0 _ hc)]; exact hc
end
theorem Src.keep {w0 W : World} {size m : Nat} {A : Option Addr} {news : List Value} (h : Src w0 size A m news) (hb : Below w0.heap.size w0 W) : Src W size A m news :=
  ⟨h.1, fun hm => by
    obtain ⟨ad, ha, hc⟩ := h.2 hm
    exact ⟨ad, ha, fun j u hu => keep_cell hb (hc j u hu)⟩⟩
/-! ### parts of a slice -/
section
variable {P : Program} {t e : TypeId} {a : Option Addr} {n c k s : Nat}
theorem run_take3 (ht : P.underlying t = some (.slice e)) (hsz : ∀ w, (sizeOf e).run P w = .ok s w) (hk : k ≤ n) (hc : n ≤ c) (W : World) :
    (Instr.slice t (.slice a n c) none (some (.int .i64 k)) (some (.int .i64 k))).run P W = .ok (.slice a k k) W := by
  have e0 : (if k = 0 then a else a.map (·.add (0 * s))) = a := by
    split
    · rfl
    · cases a <;> simp [Addr.add]
  simp only [Nat.zero_mul] at e0
  have hkc : k ≤ c := by omega
  simp [Instr.slice, Instr.sliceBounds, Instr.sliceBound, run_underlying ht, hsz, hkc, asIntOf]
  simpa using e0
theorem run_take2 (ht : P.underlying t = some (.slice e)) (hsz : ∀ w, (sizeOf e).run P w = .ok s w) (hk : k ≤ n) (hc : n ≤ c) (W : World) :
    (Instr.slice t (.slice a n c) none (some (.int .i64 k)) none).run P W = .ok (.slice a k c) W := by
  have e0 : (if c = 0 then a else a.map (·.add (0 * s))) = a := by
    split
    · rfl
    · cases a <;> simp [Addr.add]
  simp only [Nat.zero_mul] at e0
  have hkc : k ≤ c := by omega
  simp [Instr.slice, Instr.sliceBounds, Instr.sliceBound, run_underlying ht, hsz, hkc, asIntOf]
  simpa using e0
/-- the address of v[k:] -/
def fromA (a : Option Addr) (c k s : Nat) : Option Addr := if c = k then a else a.map (·.add (k * s))
theorem run_from2 (ht : P.underlying t = some (.slice e)) (hsz : ∀ w, (sizeOf e).run P w = .ok s w) (hk : k ≤ n) (hc : n ≤ c) (W : World) :
    (Instr.slice t (.slice a n c) (some (.int .i64 k)) none none).run P W = .ok (.slice (fromA a c k s) (n - k) (c - k)) W := by
  have hkc : k ≤ c := by omega
  unfold fromA
  simp [Instr.slice, Instr.sliceBounds, Instr.sliceBound, run_underlying ht, hsz, hk, asIntOf]
end
section
variable {α : Type} {R : Rep α} {S : Nat → Prop} {w : World} {a : Option Addr} {n : Nat} {xs : List α}
/-- the cells of a slice, element for element -/
theorem SlR.css (h : SlR R S w a n xs) : ∃ css : List (List Value), css.length = n ∧ (∀ (j : Nat) (x : α), xs[j]? = some x → ∃ cs, css[j]? = some cs ∧ R.rd S w x cs) ∧ ∀ q, q ≤ n → ∀ m, q + m ≤ n → ∀ c, n ≤ c → Src w R.k (fromA a c q R.k) m ((css.drop q).take m).flatten := by
  obtain ⟨hl, hc⟩ := h
  rcases Nat.eq_zero_or_pos n with h0 | h0
  · subst h0
    have : xs = [] := List.eq_nil_of_length_eq_zero hl
    subst this
    exact ⟨[], rfl, by simp, fun q hq m hm c _ => by
      obtain rfl : m = 0 := by omega
      simpa using Src.nothing (w := w) (size := R.k)⟩
  · obtain ⟨b, o, ha, hlt, hS, hc⟩ := hc h0
    have hall : ∀ i, i < n → ∃ cs : List Value, ∃ x, xs[i]? = some x ∧ R.rd S w x cs ∧ ∀ j u, cs[j]? = some u → w.cell? ⟨b, o + i * R.k + j, none⟩ = some u := fun i hi => by
      obtain ⟨cs, h1, h2⟩ := hc i _ (List.getElem?_eq_getElem (by omega : i < xs.length))
      exact ⟨cs, _, List.getElem?_eq_getElem (by omega), h1, h2⟩
    have hlist : ∀ m, m ≤ n → ∃ css : List (List Value), css.length = m ∧ ∀ j cs, css[j]? = some cs → ∃ x, xs[j]? = some x ∧ R.rd S w x cs ∧ ∀ i u, cs[i]? = some u → w.cell? ⟨b, o + j * R.k + i, none⟩ = some u := by
      intro m
      induction m with
      | zero => exact fun _ => ⟨[], rfl, by simp⟩
      | succ m ih =>
        intro hm
        obtain ⟨css, h1, h2⟩ := ih (by omega)
        obtain ⟨cs, h3⟩ := hall m (by omega)
        refine ⟨css ++ [cs], by simp [h1], fun j ds hj => ?_⟩
        by_cases hjm : j < css.length
        · rw [List.getElem?_append_left hjm] at hj; exact h2 j ds hj
        · have hl2 := (List.getElem?_eq_some_iff.1 hj).1
          rw [List.length_append, List.length_singleton] at hl2
          obtain rfl : j = m := by omega
          rw [← h1, List.getElem?_concat_length] at hj
          cases hj
          exact h3
    obtain ⟨css, h1, h2⟩ := hlist n (Nat.le_refl _)
    have hcl : ∀ cs ∈ css, cs.length = R.k := fun cs hcs => by
      obtain ⟨j, hj, rfl⟩ := List.getElem_of_mem hcs
      obtain ⟨x, _, h3, _⟩ := h2 j _ (List.getElem?_eq_getElem hj)
      exact R.len h3
    refine ⟨css, h1, fun j x hx => ?_, fun q hq m hm c hcap => ?_⟩
    · have hj : j < css.length := by have := (List.getElem?_eq_some_iff.1 hx).1; omega
      obtain ⟨y, h3, h4, _⟩ := h2 j _ (List.getElem?_eq_getElem hj)
      rw [hx] at h3
      cases h3
      exact ⟨_, List.getElem?_eq_getElem hj, h4⟩
    · have hfl : ∀ (l : List (List Value)), (∀ cs ∈ l, cs.length = R.k) → l.flatten.length = l.length * R.k := by
        intro l
        induction l with
        | nil => intro _; simp
        | cons d l ih => intro hl; rw [List.flatten_cons, List.length_append, hl d (by simp), ih (fun cs h => hl cs (by simp [h])), List.length_cons, Nat.succ_mul]; omega
      have hmem : ∀ cs ∈ (css.drop q).take m, cs.length = R.k := fun cs h => hcl cs (List.mem_of_mem_drop (List.mem_of_mem_take h))
      have hlen : ((css.drop q).take m).length = m := by rw [List.length_take, List.length_drop]; omega
      refine ⟨by rw [hfl _ hmem, hlen], fun hm0 => ?_⟩
      have hne : c ≠ q := by omega
      refine ⟨⟨b, o + q * R.k, none⟩, by unfold fromA; rw [if_neg hne, ha]; simp [Addr.add_lit], fun j u hu => ?_⟩
      rw [Addr.add_lit]
      have hkpos : 0 < R.k := by
        rcases Nat.eq_zero_or_pos R.k with hk | hk
        · have := (List.getElem?_eq_some_iff.1 hu).1
          rw [hfl _ hmem, hk] at this; omega
        · exact hk
      have hjm : j < m * R.k := by have := (List.getElem?_eq_some_iff.1 hu).1; rwa [hfl _ hmem, hlen] at this
      have hdm := Nat.div_add_mod j R.k
      have hq2 : j / R.k < m := Nat.div_lt_of_lt_mul (by rw [Nat.mul_comm]; exact hjm)
      have hmod := Nat.mod_lt j hkpos
      have hg : ((css.drop q).take m)[j / R.k]? = css[q + j / R.k]? := by rw [List.getElem?_take_of_lt hq2, List.getElem?_drop]
      have hcs : q + j / R.k < css.length := by omega
      obtain ⟨x, _, hrd, hcell⟩ := h2 (q + j / R.k) _ (List.getElem?_eq_getElem hcs)
      have hl3 := R.len hrd
      have hu2 := flat_at hmem (hg.trans (List.getElem?_eq_getElem hcs)) (List.getElem?_eq_getElem (show j % R.k < _ by rw [hl3]; exact hmod))
      have hj' : j / R.k * R.k + j % R.k = j := by rw [Nat.mul_comm]; exact hdm
      rw [hj'] at hu2
      rw [hu] at hu2
      cases hu2
      have := hcell (j % R.k) _ (List.getElem?_eq_getElem (by rw [hl3]; exact hmod))
      rw [← this]
      congr 2
      rw [Nat.add_mul]
      omega
end
theorem fromA_zero {a : Option Addr} {c s : Nat} : fromA a c 0 s = a := by
  unfold fromA
  split
  · rfl
  · cases a <;> simp [Addr.add]
/-- ints: what is taken, what is left -/
theorem RdI.srcs {w : World} {a : Option Addr} {n c q : Nat} {xs : List Int} (h : RdI w a n xs) (hq : q ≤ n) (hc : n ≤ c) : Src w 1 a q ((xs.take q).map (Value.int .i64)) ∧ Src w 1 (fromA a c q 1) (n - q) ((xs.drop q).map (Value.int .i64)) := by
  have hl := h.len
  refine ⟨⟨by simp; omega, fun h0 => ?_⟩, ⟨by simp; omega, fun h0 => ?_⟩⟩
  · obtain ⟨b, o, rfl, _, hcc⟩ := h.cells (by omega)
    refine ⟨_, rfl, fun j u hu => ?_⟩
    have hj := (List.getElem?_eq_some_iff.1 hu).1
    simp at hj
    rw [Addr.add_lit, hcc j (by omega)]
    rw [List.getElem?_map, List.getElem?_take_of_lt (by omega), List.getElem?_eq_getElem (by omega : j < xs.length)] at hu
    simp at hu
    rw [← hu, nth_eq (by omega)]
  · obtain ⟨b, o, rfl, _, hcc⟩ := h.cells (by omega)
    have hne : c ≠ q := by omega
    refine ⟨⟨b, o + q, none⟩, by unfold fromA; rw [if_neg hne]; simp [Addr.add_lit], fun j u hu => ?_⟩
    have hj := (List.getElem?_eq_some_iff.1 hu).1
    simp at hj
    rw [Addr.add_lit, Nat.add_assoc, hcc (q + j) (by omega)]
    rw [List.getElem?_map, List.getElem?_drop, List.getElem?_eq_getElem (by omega : q + j < xs.length)] at hu
    simp at hu
    rw [← hu, nth_eq (by omega)]
theorem OwnC.rdI {w : World} {base n : Nat} {e : TypeId} {a : Option Addr} {m c : Nat} {xs : List Int} (h : OwnC w base e 1 (.slice a m c) n (xs.map (Value.int .i64))) (hwf : ∀ x ∈ xs, -9223372036854775808 ≤ x ∧ x ≤ 9223372036854775807) : m = n ∧ RdI w a n xs ∧ (∀ y, a = some y → base ≤ y.block) := by
  have hl : xs.length = n := by simpa using h.1
  have hv := h.2
  rcases hv with ⟨hv, rfl⟩ | ⟨g, cap, cur, hv, hg, hh, _⟩
  · cases hv
    exact ⟨rfl, ⟨hl, hwf, by omega⟩, by simp⟩
  · cases hv
    refine ⟨rfl, ⟨hl, hwf, fun _ => ⟨g, 0, rfl, (Array.getElem?_eq_some_iff.1 hh).1, fun j hj => ?_⟩⟩, by rintro y ⟨⟩; exact hg⟩
    have := h.cells (g := g) rfl j (.int .i64 (nth xs j)) (by rw [List.getElem?_map, List.getElem?_eq_getElem (by omega), nth_eq (by omega)]; rfl)
    rw [Nat.zero_add]; exact this
/-! ### elements and their cells, side by side -/
section
variable {α : Type} {R : Rep α} {S : Nat → Prop} {w W : World} {xs ys : List α} {css dss : List (List Value)}
def Pairs (R : Rep α) (S : Nat → Prop) (w : World) (xs : List α) (css : List (List Value)) : Prop := css.length = xs.length ∧ ∀ (j : Nat) (x : α), xs[j]? = some x → ∃ cs, css[j]? = some cs ∧ R.rd S w x cs
theorem Pairs.nil : Pairs R S w [] [] := ⟨rfl, by simp⟩
theorem Pairs.one {x : α} {cs : List Value} (h : R.rd S w x cs) : Pairs R S w [x] [cs] := ⟨rfl, fun j y hy => by
  cases j with
  | zero => simp at hy; subst hy; exact ⟨cs, rfl, h⟩
  | succ j => simp at hy⟩
theorem Pairs.take (h : Pairs R S w xs css) (k : Nat) : Pairs R S w (xs.take k) (css.take k) := ⟨by rw [List.length_take, List.length_take, h.1], fun j x hx => by
  have hj : j < k := by have := (List.getElem?_eq_some_iff.1 hx).1; rw [List.length_take] at this; omega
  rw [List.getElem?_take_of_lt hj] at hx ⊢
  exact h.2 j x hx⟩
theorem Pairs.drop (h : Pairs R S w xs css) (k : Nat) : Pairs R S w (xs.drop k) (css.drop k) := ⟨by rw [List.length_drop, List.length_drop, h.1], fun j x hx => by
  rw [List.getElem?_drop] at hx ⊢
  exact h.2 (k + j) x hx⟩
theorem Pairs.append (h : Pairs R S w xs css) (h' : Pairs R S w ys dss) : Pairs R S w (xs ++ ys) (css ++ dss) := ⟨by rw [List.length_append, List.length_append, h.1, h'.1], fun j x hx => by
  by_cases hj : j < xs.length
  · rw [List.getElem?_append_left hj] at hx
    rw [List.getElem?_append_left (by rw [h.1]; exact hj)]
    exact h.2 j x hx
  · rw [List.getElem?_append_right (by omega)] at hx
    rw [List.getElem?_append_right (by rw [h.1]; omega), h.1]
    exact h'.2 _ x hx⟩
theorem Pairs.at (h : Pairs R S w xs css) {cs : List Value} (hc : cs ∈ css) : ∃ x, R.rd S w x cs := by
  obtain ⟨j, hj, rfl⟩ := List.getElem_of_mem hc
  obtain ⟨ds, h1, h2⟩ := h.2 j _ (List.getElem?_eq_getElem (by rw [← h.1]; exact hj))
  rw [List.getElem?_eq_getElem hj] at h1
  cases h1
  exact ⟨_, h2⟩
theorem Pairs.ones (h : Pairs R S w xs css) : ∀ u ∈ css.flatten, u.oneCell' = true := fun u hu => by
  obtain ⟨cs, hc, hu⟩ := List.mem_flatten.1 hu
  obtain ⟨x, hx⟩ := h.at hc
  exact R.one hx u hu
theorem Pairs.keep (h : Pairs R S w xs css) (hk : ∀ b, b < w.heap.size → S b → W.heap[b]? = w.heap[b]?) (hs : w.heap.size ≤ W.heap.size) : Pairs R S W xs css := ⟨h.1, fun j x hx => by
  obtain ⟨cs, h1, h2⟩ := h.2 j x hx
  exact ⟨cs, h1, R.keep h2 hk hs⟩⟩
theorem Pairs.below (h : Pairs R S w xs css) (hb : Below w.heap.size w W) : Pairs R S W xs css := h.keep (fun b hlt _ => hb.block b hlt) hb.size
theorem Pairs.own {base n : Nat} {e : TypeId} {v : Value} (h : Pairs R S w xs css) (ho : OwnC w base e R.k v n css.flatten) (hn : n = xs.length) : OwnR R S w base e v xs := by
  subst hn; exact ⟨css, ho, h.1, h.2⟩
theorem OwnR.pairs {base : Nat} {e : TypeId} {v : Value} (h : OwnR R S w base e v xs) : ∃ css, OwnC w base e R.k v xs.length css.flatten ∧ Pairs R S w xs css := by
  obtain ⟨css, h1, h2, h3⟩ := h
  exact ⟨css, h1, h2, h3⟩
theorem SlR.pairs {a : Option Addr} {n : Nat} (h : SlR R S w a n xs) : ∃ css, Pairs R S w xs css ∧ (∀ q, q ≤ n → Src w R.k a q (css.take q).flatten) ∧ ∀ q, q ≤ n → ∀ c, n ≤ c → Src w R.k (fromA a c q R.k) (n - q) (css.drop q).flatten := by
  obtain ⟨css, h1, h2, h3⟩ := h.css
  refine ⟨css, ⟨by rw [h1, h.1], h2⟩, fun q hq => ?_, fun q hq c hc => ?_⟩
  · have := h3 0 (Nat.zero_le _) q (by omega) n (Nat.le_refl _)
    rw [fromA_zero, List.drop_zero] at this
    exact this
  · have := h3 q hq (n - q) (by omega) c hc
    rwa [List.take_of_length_le (by rw [List.length_drop, h1]; exact Nat.le_refl _)] at this
end
end Go.Proofs.YtikmkalfdiiahaaGreatDoor
