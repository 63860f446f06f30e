/-
  The vocabulary of this seat's contracts: a slice of ints that can be read in a world ('RdI'), how it stays readable behind a call that writes nothing old ('Below'), and the bridge between the words of append ('ownsRow') and of the sort ('Holds', 'putRow', 'grow'). No condition; no program.
-/
import Derived.WalkKit
import Derived.WalkSpells
import Derived.WalkLawsBesides
import Derived.Lib.Hide
import Derived.Lib.RowBridge
import Derived.Sort.Grow
import Derived.Deep.Draws
import Derived.StillTailTactics
import Derived.Deep.RegionHeld3
import Derived.Deep.AppendLies
namespace Go.RowKit
theorem Below.drewN {B : Nat} {a w : World} (h : Below B a w) (q : Nat) : Below B a (w.drewN q) := ⟨h.os, h.tape, h.output, h.size, h.block⟩
end Go.RowKit
namespace Go.Proofs.YtpkajhmgkmkcgaaDoor
open Go.RowKit Go.Sort Go.Lib

/-- Element j (0 beyond the end): behind a name, so that no rule takes it apart. -/
def nth (xs : List Int) (j : Nat) : Int := xs.getD j 0
theorem nth_eq {xs : List Int} {j : Nat} (h : j < xs.length) : nth xs j = xs[j] := by simp [nth, List.getD, h]
theorem nth_mem {xs : List Int} {j : Nat} (h : j < xs.length) : nth xs j ∈ xs := by rw [nth_eq h]; exact List.getElem_mem h
theorem ext_nth {xs ys : List Int} (h : xs.length = ys.length) (e : ∀ j, j < xs.length → nth xs j = nth ys j) : xs = ys := by
  apply List.ext_getElem h
  intro i h1 h2
  have := e i h1
  rwa [nth_eq h1, nth_eq h2] at this

def hasI (xs : List Int) (x : Int) : Bool := xs.contains x
theorem hasI_iff {xs : List Int} {x : Int} : hasI xs x = true ↔ x ∈ xs := by simp [hasI]
def nthB (xs : List Bool) (j : Nat) : Bool := xs.getD j false
theorem nthB_eq {xs : List Bool} {j : Nat} (h : j < xs.length) : nthB xs j = xs[j] := by simp [nthB, List.getD, h]

/-- The slice with address a and length n reads as the ints xs. -/
structure RdI (w : World) (a : Option Addr) (n : Nat) (xs : List Int) : Prop where
  len : xs.length = n
  wf : ∀ x ∈ xs, -9223372036854775808 ≤ x ∧ x ≤ 9223372036854775807
  cells : 0 < n → ∃ b o, a = some ⟨b, o, none⟩ ∧ b < w.heap.size ∧ ∀ j, j < n → w.cell? ⟨b, o + j, none⟩ = some (.int .i64 (nth xs j))

theorem RdI.nil (w : World) (a : Option Addr) : RdI w a 0 [] := ⟨rfl, by simp, by omega⟩

theorem RdI.below {w w' : World} {a : Option Addr} {n B : Nat} {xs : List Int} (h : RdI w a n xs) (hb : Below B w w') (hB : w.heap.size ≤ B) : RdI w' a n xs := by
  refine ⟨h.len, h.wf, fun hn => ?_⟩
  obtain ⟨b, o, ha, hlt, hc⟩ := h.cells hn
  exact ⟨b, o, ha, Nat.lt_of_lt_of_le hlt hb.size, fun j hj => by rw [hb.cell (p := ⟨b, o + j, none⟩) (Nat.lt_of_lt_of_le hlt hB)]; exact hc j hj⟩
theorem RdI.drewN {w : World} {a : Option Addr} {n : Nat} {xs : List Int} (h : RdI w a n xs) (q : Nat) : RdI (w.drewN q) a n xs := ⟨h.len, h.wf, h.cells⟩
theorem RdI.drew {w : World} {a : Option Addr} {n : Nat} {xs : List Int} (h : RdI w a n xs) : RdI w.drew a n xs := ⟨h.len, h.wf, h.cells⟩
theorem RdI.at {w : World} {a : Option Addr} {n : Nat} {xs : List Int} (h : RdI w a n xs) (k : Nat) (hk : k < n) : ∃ b o, a = some ⟨b, o, none⟩ ∧ w.cell? ⟨b, o + k, none⟩ = some (.int .i64 (nth xs k)) := by
  obtain ⟨b, o, ha, _, hc⟩ := h.cells (by omega)
  exact ⟨b, o, ha, hc k hk⟩
/-- The slice with address a and length n reads as the bools xs. -/
structure RdB (w : World) (a : Option Addr) (n : Nat) (xs : List Bool) : Prop where
  len : xs.length = n
  cells : 0 < n → ∃ b o, a = some ⟨b, o, none⟩ ∧ b < w.heap.size ∧ ∀ j, j < n → w.cell? ⟨b, o + j, none⟩ = some (.bool (nthB xs j))
theorem RdB.below {w w' : World} {a : Option Addr} {n B : Nat} {xs : List Bool} (h : RdB w a n xs) (hb : Below B w w') (hB : w.heap.size ≤ B) : RdB w' a n xs := by
  refine ⟨h.len, fun hn => ?_⟩
  obtain ⟨b, o, ha, hlt, hc⟩ := h.cells hn
  exact ⟨b, o, ha, Nat.lt_of_lt_of_le hlt hb.size, fun j hj => by rw [hb.cell (p := ⟨b, o + j, none⟩) (Nat.lt_of_lt_of_le hlt hB)]; exact hc j hj⟩
theorem RdB.drewN {w : World} {a : Option Addr} {n : Nat} {xs : List Bool} (h : RdB w a n xs) (q : Nat) : RdB (w.drewN q) a n xs := ⟨h.len, h.cells⟩
theorem RdB.at {w : World} {a : Option Addr} {n : Nat} {xs : List Bool} (h : RdB w a n xs) (k : Nat) (hk : k < n) : ∃ b o, a = some ⟨b, o, none⟩ ∧ w.cell? ⟨b, o + k, none⟩ = some (.bool (nthB xs k)) := by
  obtain ⟨b, o, ha, _, hc⟩ := h.cells (by omega)
  exact ⟨b, o, ha, hc k hk⟩

/-- What an own row of ints reads as. -/
theorem RdI.own {w : World} {base n : Nat} {e : TypeId} {a : Option Addr} {m c : Nat} {xs : List Int} (h : w.ownsRow base e 1 (.slice a m c) n (xs.map (Value.int .i64))) (hwf : ∀ x ∈ xs, -9223372036854775808 ≤ x ∧ x ≤ 9223372036854775807) : m = n ∧ RdI w a n xs ∧ (∀ b, a = some b → base ≤ b.block ∧ b.block < w.heap.size) := by
  obtain ⟨hl, h2⟩ := h
  have hl' : xs.length = n := by simpa using hl
  rcases h2 with ⟨hv, rfl⟩ | ⟨g, cap, cur, hv, hg, hh, h1, h2, h3, h4⟩
  · cases hv
    exact ⟨rfl, ⟨hl', hwf, by omega⟩, by simp⟩
  · cases hv
    have hlt := (Array.getElem?_eq_some_iff.1 hh).1
    refine ⟨rfl, ⟨hl', hwf, fun hn => ⟨g, 0, rfl, hlt, fun j hj => ?_⟩⟩, by rintro b ⟨⟩; exact ⟨hg, hlt⟩⟩
    have e1 : (cur.toList.take (n * 1))[j]? = (xs.map (Value.int .i64))[j]? := by rw [h4]
    rw [List.getElem?_take_of_lt (by omega)] at e1
    simp only [World.cell?, hh, Nat.zero_add, Option.isSome_none, Bool.false_eq_true, if_false]
    rw [← Array.getElem?_toList, e1]
    simp [nth, List.getD, show j < xs.length by omega]

/-- A literal of ints, just laid. -/
theorem RdI.lit (xs : List Int) (e : TypeId) (w : World) (hwf : ∀ x ∈ xs, -9223372036854775808 ≤ x ∧ x ≤ 9223372036854775807) : RdI (w.alloc (.cells (xs.map (Value.int .i64)).toArray e)) (some ⟨w.heap.size, 0, none⟩) xs.length xs := by
  refine ⟨rfl, hwf, fun _ => ⟨w.heap.size, 0, rfl, by simp, fun j hj => ?_⟩⟩
  simp [World.cell?_alloc_new, nth, List.getD, hj]
theorem RdI.lit2 (xs ys : List Int) (e : TypeId) (w : World) (hx : ∀ x ∈ xs, -9223372036854775808 ≤ x ∧ x ≤ 9223372036854775807) (hy : ∀ x ∈ ys, -9223372036854775808 ≤ x ∧ x ≤ 9223372036854775807) :
    RdI ((w.alloc (.cells (xs.map (Value.int .i64)).toArray e)).alloc (.cells (ys.map (Value.int .i64)).toArray e)) (some ⟨w.heap.size, 0, none⟩) xs.length xs ∧
    RdI ((w.alloc (.cells (xs.map (Value.int .i64)).toArray e)).alloc (.cells (ys.map (Value.int .i64)).toArray e)) (some ⟨w.heap.size + 1, 0, none⟩) ys.length ys := by
  have h2 := RdI.lit ys e (w.alloc (.cells (xs.map (Value.int .i64)).toArray e)) hy
  rw [World.size_alloc] at h2
  exact ⟨(RdI.lit xs e w hx).below ((Below.refl _ _).alloc (Nat.le_refl _) _) (Nat.le_refl _), h2⟩
theorem below_some {B : Nat} {w w' : World} {row : Option Nat} (hg : w.grownBy w' row) (hB : B ≤ w.heap.size) (hr : ∀ k, row = some k → B ≤ k) : Below B w w' := (Below.refl _ _).grown hg hB hr

theorem holdsI_of_block {w : World} {g : Nat} {cur : Array Value} {e : TypeId} {ss : List Int} (hb : w.heap[g]? = some (.cells cur e (0, 0))) (ht : cur.toList.take ss.length = ss.map (Value.int .i64)) : Holds (Value.int .i64) w g 0 ss.toArray := by
  intro j hj
  have hj' : j < ss.length := by simpa using hj
  refine ⟨?_, by simp [World.frozen?, hb]⟩
  have h1 : (cur.toList.take ss.length)[j]? = (ss.map (Value.int .i64))[j]? := by rw [ht]
  rw [List.getElem?_take_of_lt hj'] at h1
  simp only [World.cell?, hb, Nat.zero_add]
  simp only [Option.isSome_none, Bool.false_eq_true, if_false]
  rw [← Array.getElem?_toList, h1]
  simp [hj']
theorem heapI_sorted {w : World} {g n : Nat} {os : Array Obj} {cur : Array Value} {e : TypeId} {fr : Nat × Nat} (d : Array Int) (hb : w.heap[g]? = some (.cells cur e fr)) :
    (grow (putRow (Value.int .i64) (Sort.ahead w n) g 0 d) os).heap[g]? = some (.cells (putCells (Value.int .i64) 0 d cur) e fr) := by
  have hg : g < w.heap.size := (Array.getElem?_eq_some_iff.1 hb).1
  rw [heap_grow_old _ _ (by simpa using hg)]
  simp [putRow, mapBlock, Sort.ahead, Array.getElem?_modify, hb, onCells]
theorem grownByI_sorted {w : World} {g n : Nat} {os : Array Obj} (d : Array Int) : w.grownBy (grow (putRow (Value.int .i64) (Sort.ahead w n) g 0 d) os) (some g) := by
  refine ⟨rfl, rfl, rfl, by simp, fun k hk hne => ?_⟩
  rw [heap_grow_old _ _ (by simpa using hk)]
  have : g ≠ k := fun e => hne (by rw [e])
  simp [putRow, mapBlock, Sort.ahead, Array.getElem?_modify, this]
theorem takeI_putCells (cur : Array Value) (ts : List Int) (h : ts.length ≤ cur.size) : (putCells (Value.int .i64) 0 ts.toArray cur).toList.take ts.length = ts.map (Value.int .i64) := by
  apply List.ext_getElem?
  intro j
  by_cases hj : j < ts.length
  · rw [List.getElem?_take_of_lt hj, Array.getElem?_toList]
    simp [putCells, hj, show j < cur.size by omega]
  · rw [List.getElem?_take_eq_none (by omega), List.getElem?_eq_none (by simp; omega)]
/-- Behind a permutation of the row in place, the same slice owns the new list. -/
theorem ownsRowI_sorted {w : World} {base g cap n : Nat} {e : TypeId} {os : Array Obj} {cur : Array Value} {ss ts : List Int} (hl : ts.length = ss.length) (hbase : base ≤ g) (hb : w.heap[g]? = some (.cells cur e (0, 0)))
    (h1 : ss.length ≤ cap) (h2 : cap ≤ maxLen) (h3 : cur.size = cap * 1) :
    (grow (putRow (Value.int .i64) (Sort.ahead w n) g 0 ts.toArray) os).ownsRow base e 1 (.slice (some ⟨g, 0, none⟩) ss.length cap) ss.length (ts.map (Value.int .i64)) :=
  ⟨by simp [hl], .inr ⟨g, cap, _, rfl, hbase, heapI_sorted _ hb, h1, h2, by simp [putCells, h3], by rw [Nat.mul_one, ← hl]; exact takeI_putCells cur ts (by omega)⟩⟩
/-- A shorter slice of an own row. -/
theorem ownsRow_cut {w : World} {base g cap n : Nat} {e : TypeId} {xs ys : List Value} (h : w.ownsRow base e 1 (.slice (some ⟨g, 0, none⟩) n cap) n (xs ++ ys)) : w.ownsRow base e 1 (.slice (some ⟨g, 0, none⟩) xs.length cap) xs.length xs := by
  obtain ⟨hl, h2⟩ := h
  rcases h2 with ⟨hv, _⟩ | ⟨g', cap', cur, hv, hg, hh, h1, h2, h3, h4⟩
  · cases hv
  · cases hv
    have hn : n = xs.length + ys.length := by simpa using hl.symm
    refine ⟨by simp, .inr ⟨g, cap, cur, rfl, hg, hh, by omega, h2, h3, ?_⟩⟩
    have : (cur.toList.take (n * 1)).take xs.length = xs := by rw [h4]; simp
    rw [List.take_take] at this
    rw [Nat.mul_one, show xs.length = min xs.length (n * 1) by omega]
    exact this
/-- Behind 'append(v, x)' on an own row. -/
theorem own_snoc {α : Type} {f : α → Value} {w wr w1 : World} {base B : Nat} {e : TypeId} {v v' : Value} {o : Obj} {L L' : List α} {x : α} (hown : wr.ownsRow base e 1 v L.length (L.map f)) (hb : Below B w wr) (hB : B ≤ base) (hBr : B ≤ wr.heap.size)
    (hown1 : w1.ownsRow base e 1 v' (L.length + 1) (L.map f ++ [f x])) (hg : (wr.alloc o).grownBy w1 v.ownBlock) (hL : L' = L ++ [x]) : w1.ownsRow base e 1 v' L'.length (L'.map f) ∧ Below B w w1 := by
  subst hL
  refine ⟨by simpa using hown1, ?_⟩
  exact (hb.alloc hBr o).grown hg (by simp; omega) (fun k hk => Nat.le_trans hB (hown.lt k hk).1)
/-- A region that draws its order, all of whose operations but the last ones (from n on, in one forced order) only read: walked in the order of the text, in a world that is a name. -/
theorem wp_tail {P : Program} {id : Nat} {Q : Exit → Act → World → Prop} {a : Act} {w : World} {l : List Oper} (n : Nat) (hm : P.follows .mixedOrders = true) (hB : Region.lexTailB .any l.toArray n = true)
    (h : ∀ W, W = w.drew → wpStill P l.toArray W (fun a' => wpList P l.toArray Q (l.drop n) a' W) (l.take n) a) : (Code.region id l.toArray true).wp P Q a w :=
  wp_region_still_tail n hm hB (h _ rfl)
/-- 'append(v, ys...)' on an own row of ints: whatever readable slice is appended, a nil one too. -/
theorem run_append_rd {P : Program} {w : World} {t ty e base : Nat} {i : TypeInfo} (ht : P.underlying t = some (.slice e)) (hi : P.info? e = some i) (hz : i.zero = some (.int .i64 0)) (hsize : i.size = 1) (hby : i.bytes = 8)
    {v : Value} {n m c : Nat} {a : Option Addr} {xs : List Value} {ys : List Int} (hown : w.ownsRow base e 1 v n xs) (hr : RdI w a m ys) (hn : n < 1099511627776) (hm : m < 1099511627776) (hbase : base ≤ w.heap.size) :
    ∃ v' w', (Builtin.append_ #[t, t] ty #[v, .slice a m c]).run P w = .ok v' w' ∧ w'.ownsRow base e 1 v' (n + m) (xs ++ ys.map (Value.int .i64)) ∧ w.grownBy w' v.ownBlock := by
  by_cases h0 : 0 < m
  · obtain ⟨b, o, rfl, hlt, hc⟩ := hr.cells h0
    obtain ⟨v', w', h1, h2, h3, _⟩ := run_append_own (P := P) w base t ty e i (.int .i64 0) 1 8 ht hi hz hsize hby rfl (by decide) v n xs hown ⟨b, o, none⟩ m c (ys.map (Value.int .i64)) (by rw [List.length_map, hr.len, Nat.mul_one]) (fun j u hu => by
      rw [List.getElem?_map] at hu
      obtain ⟨y, hy, rfl⟩ := Option.map_eq_some_iff.1 hu
      obtain ⟨hj, hyj⟩ := List.getElem?_eq_some_iff.1 hy
      rw [Addr.add_lit, hc j (by rw [← hr.len]; exact hj), nth_eq hj, hyj]) (fun u hu => by
      obtain ⟨y, _, rfl⟩ := List.mem_map.1 hu; rfl) (by unfold maxLen; omega) (by omega) hbase
    exact ⟨v', w', h1, h2, h3⟩
  · obtain rfl : m = 0 := by omega
    have hys : ys = [] := List.eq_nil_of_length_eq_zero hr.len
    subst hys
    refine ⟨v, w, ?_, by simpa using hown, ⟨rfl, rfl, rfl, Nat.le_refl _, fun _ _ _ => rfl⟩⟩
    rcases hown.2 with ⟨rfl, rfl⟩ | ⟨g, cap, cur, rfl, hbg, hg, hnc, _⟩
    · cases a <;> simp [Builtin.append_, run_underlying ht, sizeOf, typeInfo, hi, Builtin.lenOf, Builtin.firstCells, loadCells, loadCellsFrom]
    · cases a <;> simp [Builtin.append_, run_underlying ht, sizeOf, typeInfo, hi, Builtin.lenOf, Builtin.firstCells, loadCells, loadCellsFrom, hnc, storeCells]
section
variable {P : Program} {w : World} {t base e n m c : Nat} {i : TypeInfo} {v : Value} {ad : Option Addr} {xs : List Value} {ys : List Int} {ops : Array Oper} {o : Oper} {a : Act} {Q : Exit → Act → World → Prop}
theorem wp_append_rd {K : Act → World → Prop} (s x : Operand)
    (ho : o.op = .call { callee := .builtin .append, args := #[s, x], argTypes := #[t, t] })
    (ht : P.underlying t = some (.slice e)) (hi : P.info? e = some i) (hz : i.zero = some (.int .i64 0)) (hsize : i.size = 1) (hby : i.bytes = 8)
    (hs : a.eval s = v) (hx : a.eval x = .slice ad m c) (hown : w.ownsRow base e 1 v n xs) (hr : RdI w ad m ys) (hn : n < 1099511627776) (hm : m < 1099511627776) (hbase : base ≤ w.heap.size)
    (h : ∀ v' w', w'.ownsRow base e 1 v' (n + m) (xs ++ ys.map (Value.int .i64)) → w.grownBy w' v.ownBlock → K (a.put o.dst v') w') : o.wp P a w K Q := by
  obtain ⟨v', w', hr, h2, h3⟩ := run_append_rd (P := P) (ty := o.type) (c := c) ht hi hz hsize hby hown hr hn hm hbase
  unfold Oper.wp execOp
  simp only [ho, resolve, invoke, builtin, Sem.run_bind, Sem.run_pure, Result.andThen_ok, List.map_toArray, List.map_cons, List.map_nil, hs, hx, hr]
  exact h v' w' h2 h3
theorem step_append_rd {K : Act → World → Prop} {E : Prop} (hgd : o.guard = none) (s x : Operand)
    (ho : o.op = .call { callee := .builtin .append, args := #[s, x], argTypes := #[t, t] })
    (ht : P.underlying t = some (.slice e)) (hi : P.info? e = some i) (hz : i.zero = some (.int .i64 0)) (hsize : i.size = 1) (hby : i.bytes = 8)
    (hs : a.eval s = v) (hx : a.eval x = .slice ad m c) (hown : w.ownsRow base e 1 v n xs) (hr : RdI w ad m ys) (hn : n < 1099511627776) (hm : m < 1099511627776) (hbase : base ≤ w.heap.size)
    (h : ∀ v' w', w'.ownsRow base e 1 v' (n + m) (xs ++ ys.map (Value.int .i64)) → w.grownBy w' v.ownBlock → K (a.put o.dst v') w') :
    if Region.wanted o (yielded ops a.tmps) = true then Oper.wp P o a w K Q else E := by
  have hw : Region.wanted o (yielded ops a.tmps) = true := by simp [Region.wanted, hgd]
  rw [if_pos hw]
  exact wp_append_rd s x ho ht hi hz hsize hby hs hx hown hr hn hm hbase h
theorem wpList_append_rd {rest : List Oper} (hgd : o.guard = none) (s x : Operand)
    (ho : o.op = .call { callee := .builtin .append, args := #[s, x], argTypes := #[t, t] })
    (ht : P.underlying t = some (.slice e)) (hi : P.info? e = some i) (hz : i.zero = some (.int .i64 0)) (hsize : i.size = 1) (hby : i.bytes = 8)
    (hs : a.eval s = v) (hx : a.eval x = .slice ad m c) (hown : w.ownsRow base e 1 v n xs) (hr : RdI w ad m ys) (hn : n < 1099511627776) (hm : m < 1099511627776) (hbase : base ≤ w.heap.size)
    (h : ∀ v' w', w'.ownsRow base e 1 v' (n + m) (xs ++ ys.map (Value.int .i64)) → w.grownBy w' v.ownBlock → wpList P ops Q rest (a.put o.dst v') w') : wpList P ops Q (o :: rest) a w :=
  wpList_plain hgd fun _ hK => wp_append_rd s x ho ht hi hz hsize hby hs hx hown hr hn hm hbase fun v' w' h2 h3 => hK _ _ (h v' w' h2 h3)
end
/-- 'l[k:]' and 'l[:k]' of a readable slice. -/
theorem run_from {P : Program} {w : World} {t e : TypeId} {a : Option Addr} {n c k : Nat} {xs : List Int} (ht : P.underlying t = some (.slice e)) (hsz : ∀ w, (sizeOf e).run P w = .ok 1 w) (hr : RdI w a n xs) (hk : k ≤ n) (hc : n ≤ c) :
    ∃ a', (∀ W, (Instr.slice t (.slice a n c) (some (.int .i64 k)) none none).run P W = .ok (.slice a' (n - k) (c - k)) W) ∧ RdI w a' (n - k) (xs.drop k) := by
  refine ⟨if c = k then a else a.map (·.add (k * 1)), fun q => ?_, ?_⟩
  · have h0 : (0 : Int) ≤ k ∧ (k : Int) ≤ n := by omega
    simp [Instr.slice, Instr.sliceBounds, Instr.sliceBound, run_underlying ht, hsz, h0, asIntOf]
    intro h; omega
  · refine ⟨by rw [List.length_drop, hr.len], fun x hx => hr.wf x (List.mem_of_mem_drop hx), fun hn => ?_⟩
    obtain ⟨b, o, rfl, hlt, hcell⟩ := hr.cells (by omega)
    refine ⟨b, o + k, ?_, hlt, fun j hj => ?_⟩
    · rw [if_neg (by omega)]; simp [Addr.add_lit]
    · rw [Nat.add_assoc, hcell (k + j) (by omega)]
      simp [nth, List.getD]
theorem run_upto {P : Program} {w : World} {t e : TypeId} {a : Option Addr} {n c k : Nat} {xs : List Int} (ht : P.underlying t = some (.slice e)) (hsz : ∀ w, (sizeOf e).run P w = .ok 1 w) (hr : RdI w a n xs) (hk : k ≤ n) (hc : n ≤ c) :
    (∀ W, (Instr.slice t (.slice a n c) none (some (.int .i64 k)) none).run P W = .ok (.slice a k c) W) ∧ RdI w a k (xs.take k) := by
  refine ⟨fun q => ?_, ?_⟩
  · have h0 : (0 : Int) ≤ k ∧ (k : Int) ≤ c := by omega
    have e0 : (if c = 0 then a else a.map (·.add (0 * 1))) = a := by
      split
      · rfl
      · cases a <;> simp [Addr.add]
    have hkc : k ≤ c := by omega
    simp only [Nat.zero_mul] at e0
    simp [Instr.slice, Instr.sliceBounds, Instr.sliceBound, run_underlying ht, hsz, hkc, asIntOf]
    simpa using e0
  · refine ⟨by rw [List.length_take, hr.len]; omega, fun x hx => hr.wf x (List.mem_of_mem_take hx), fun hn => ?_⟩
    obtain ⟨b, o, rfl, hlt, hcell⟩ := hr.cells (by omega)
    refine ⟨b, o, rfl, hlt, fun j hj => ?_⟩
    rw [hcell j (by omega)]
    simp [nth, List.getD, hj]
theorem grow_empty' (w : World) : grow w #[] = w := by simp [grow]
end Go.Proofs.YtpkajhmgkmkcgaaDoor
