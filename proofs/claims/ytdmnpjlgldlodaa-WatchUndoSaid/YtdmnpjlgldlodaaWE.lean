/-
  watch.Watch: what a watch in memory holds ('WatchIs'), what its methods leave alone ('WStep'); New, Len, Value, Add, Undo. Conditions: ints, bounded lengths.
-/
import Derived.Test.YtdmnpjlgldlodaaWD
namespace Go.Proofs.Ytdmnpjlgldlodaa
open Go.RowKit Go.Sort Go.Lib Go.Maps

/-- the block of the row that the field set leads to -/
def rowOf (w : World) (p : Nat) : Option Nat := match w.heap[p]? with
  | some (.cells c _ _) => (c.getD 1 undef).ownBlock
  | _ => none
/-- a step of a watch: blocks that are none of its own are as they were -/
structure WStep (p m1 m2 : Nat) (w w' : World) : Prop where
  os : w'.os = w.os
  tape : w'.tape = w.tape
  output : w'.output = w.output
  size : w.heap.size ≤ w'.heap.size
  block : ∀ k, k < w.heap.size → k ≠ p → k ≠ m1 → k ≠ m2 → rowOf w p ≠ some k → w'.heap[k]? = w.heap[k]? ∧ rowOf w' p ≠ some k
theorem WStep.trans {p m1 m2 : Nat} {a b c : World} (h : WStep p m1 m2 a b) (k : WStep p m1 m2 b c) : WStep p m1 m2 a c :=
  ⟨k.os.trans h.os, k.tape.trans h.tape, k.output.trans h.output, Nat.le_trans h.size k.size, fun i hi h1 h2 h3 h4 => by
    obtain ⟨e1, e2⟩ := h.block i hi h1 h2 h3 h4
    obtain ⟨e3, e4⟩ := k.block i (Nat.lt_of_lt_of_le hi h.size) h1 h2 h3 e2
    exact ⟨e3.trans e1, e4⟩⟩
theorem rowOf_same {w w' : World} {p : Nat} (h : w'.heap[p]? = w.heap[p]?) : rowOf w' p = rowOf w p := by unfold rowOf; rw [h]
theorem WStep.of_below {p m1 m2 : Nat} {w w' : World} (hp : p < w.heap.size) (h : Below w.heap.size w w') : WStep p m1 m2 w w' :=
  ⟨h.os, h.tape, h.output, h.size, fun k hk _ _ _ hr => ⟨h.block k hk, by rw [rowOf_same (h.block p hp)]; exact hr⟩⟩
theorem WStep.of_map {p m1 m2 m : Nat} {w w' : World} (hp : p < w.heap.size) (hm : m = m1 ∨ m = m2) (hpm : p ≠ m) (h : w.mapTurned w' m) : WStep p m1 m2 w w' :=
  ⟨h.grown.os, h.grown.tape, h.grown.output, h.grown.size, fun k hk _ h1 h2 hr => by
    have hb : ∀ j, j < w.heap.size → j ≠ m → w'.heap[j]? = w.heap[j]? := fun j hj hne => h.grown.block j hj (fun e => by cases e; exact hne rfl)
    have hkm : k ≠ m := by rcases hm with rfl | rfl <;> assumption
    exact ⟨hb k hk hkm, by rw [rowOf_same (hb p hp hpm)]; exact hr⟩⟩
theorem WStep.drewN {p m1 m2 : Nat} {a w : World} (h : WStep p m1 m2 a w) (q : Nat) : WStep p m1 m2 a (w.drewN q) := ⟨h.os, h.tape, h.output, h.size, h.block⟩

theorem WStep.weaken {p m1 m2 : Nat} {w w' : World} (h : WStep p p m2 w w') : WStep p m1 m2 w w' := ⟨h.os, h.tape, h.output, h.size, fun k hk h1 _ h3 h4 => h.block k hk h1 h1 h3 h4⟩
theorem WStep.drew {p m1 m2 : Nat} {a w : World} (h : WStep p m1 m2 a w) : WStep p m1 m2 a w.drew := ⟨h.os, h.tape, h.output, h.size, h.block⟩
/-- a slice that lies in none of a watch's own blocks -/
def WOff (p m1 m2 : Nat) (w : World) (a : Option Addr) : Prop := ∀ x, a = some x → x.block ≠ p ∧ x.block ≠ m1 ∧ x.block ≠ m2 ∧ rowOf w p ≠ some x.block
theorem RdI.wstep {p m1 m2 : Nat} {w w' : World} {a : Option Addr} {n : Nat} {xs : List Int} (h : RdI w a n xs) (ho : WOff p m1 m2 w a) (hs : WStep p m1 m2 w w') : RdI w' a n xs := by
  refine ⟨h.len, h.wf, fun hn => ?_⟩
  obtain ⟨b, o, ha, hlt, hc⟩ := h.cells hn
  obtain ⟨h1, h2, h3, h4⟩ := ho _ ha
  refine ⟨b, o, ha, Nat.lt_of_lt_of_le hlt hs.size, fun j hj => ?_⟩
  rw [World.cell?_of_block (w := w) (a := ⟨b, o + j, none⟩) (hs.block b hlt h1 h2 h3 h4).1]
  exact hc j hj
theorem WOff.wstep {p m1 m2 : Nat} {w w' : World} {a : Option Addr} (ho : WOff p m1 m2 w a) (hs : WStep p m1 m2 w w') (hlt : ∀ x, a = some x → x.block < w.heap.size) : WOff p m1 m2 w' a := fun x hx => by
  obtain ⟨h1, h2, h3, h4⟩ := ho x hx
  exact ⟨h1, h2, h3, (hs.block x.block (hlt x hx) h1 h2 h3 h4).2⟩

/-- a row of a watch: the ints that it holds, in a block that is none of the watch's own -/
def AtR (p m1 m2 : Nat) (w : World) (a : Option Addr) (n : Nat) (l : List Int) : Prop := RdI w a n l ∧ n < 1099511627776 ∧ (0 < n → WOff p m1 m2 w a)
theorem AtR.wstep {p m1 m2 : Nat} {w w' : World} {a : Option Addr} {n : Nat} {xs : List Int} (h : AtR p m1 m2 w a n xs) (hs : WStep p m1 m2 w w') : AtR p m1 m2 w' a n xs := by
  obtain ⟨h1, h2, h3⟩ := h
  by_cases hn : 0 < n
  · obtain ⟨b, o, ha, hlt, _⟩ := h1.cells hn
    exact ⟨h1.wstep (h3 hn) hs, h2, fun _ => (h3 hn).wstep hs (fun x hx => by rw [ha] at hx; cases hx; exact hlt)⟩
  · exact ⟨⟨h1.len, h1.wf, fun h => absurd h hn⟩, h2, fun h => absurd h hn⟩

def findC (C : List (Int × List Int)) (id : Int) : Option (List Int) := (C.find? fun e => e.1 == id).map (·.2)

/-- clauses C, the row of set literals R, the literals that are true S -/
structure WatchP (B p m1 m2 : Nat) (C : List (Int × List Int)) (R S : List Int) (w : World) : Prop where
  ne1 : p ≠ m1
  ne2 : p ≠ m2
  ne3 : m1 ≠ m2
  bp : B ≤ p
  b1 : B ≤ m1
  b2 : B ≤ m2
  blk : ∃ v, w.heap[p]? = some (.cells #[.map (some m1), v, .map (some m2)] 85 (0, 0)) ∧ w.ownsRow B 3 1 v R.length (R.map (Value.int .i64))
  tru : TruthIs m2 S w
  all : ∃ F, MapV Try.prog 3 m1 C.length F w ∧ ∀ id, match findC C id with
    | none => F id = none
    | some l => ∃ a n c, F id = some (.slice a n c) ∧ AtR p m1 m2 w a n l

abbrev WatchIs (B p m1 m2 : Nat) (C : List (Int × List Int)) (S : List Int) (w : World) : Prop := WatchP B p m1 m2 C S S w
theorem WatchP.plt {B p m1 m2 : Nat} {C : List (Int × List Int)} {R S : List Int} {w : World} (h : WatchP B p m1 m2 C R S w) : p < w.heap.size := by
  obtain ⟨v, hb, _⟩ := h.blk; exact (Array.getElem?_eq_some_iff.1 hb).1
theorem cell_p {w : World} {p : Nat} {cs : Array Value} {t : TypeId} {f : Nat × Nat} (hb : w.heap[p]? = some (.cells cs t f)) (j : Nat) : w.cell? ⟨p, j, none⟩ = cs[j]? := by simp [World.cell?, hb]
theorem frz_p {w : World} {p : Nat} {cs : Array Value} {t : TypeId} (hb : w.heap[p]? = some (.cells cs t (0, 0))) (j : Nat) : w.frozen? ⟨p, j, none⟩ = false := by simp [World.frozen?, hb]
theorem WatchP.below {B p m1 m2 : Nat} {C : List (Int × List Int)} {R S : List Int} {w w' : World} (h : WatchP B p m1 m2 C R S w) (hb : Below w.heap.size w w') : WatchP B p m1 m2 C R S w' := by
  obtain ⟨v, hv, ho⟩ := h.blk
  obtain ⟨F, hm, hF⟩ := h.all
  have hs := WStep.of_below (m1 := m1) (m2 := m2) h.plt hb
  refine ⟨h.ne1, h.ne2, h.ne3, h.bp, h.b1, h.b2, ⟨v, (hb.block p h.plt).trans hv, ?_⟩, h.tru.below hb, F, hm.same (hb.block m1 hm.lt), fun id => ?_⟩
  · exact ho.kept ⟨hb.os, hb.tape, hb.output, hb.size, fun k hk _ => hb.block k hk⟩ (row := none) (by cases hv' : v.ownBlock <;> simp)
  · have := hF id
    split at this
    · exact this
    · obtain ⟨a, n, c, e1, e2⟩ := this
      exact ⟨a, n, c, e1, e2.wstep hs⟩

set_option maxHeartbeats 400000 in
theorem wnew_any (w : World) : Calls Try.prog 26 #[] w fun e w' =>
    ∃ p m1 m2, e = .returned (.pointer (some ⟨p, 0, none⟩)) ∧ WatchIs w.heap.size p m1 m2 [] [] w' ∧ Below w.heap.size w w' := by
  have hmm := @run_makeMap Try.prog
  go_enter Try.func26, Try.ntmps26
  go_wp2
  go_ret
  have hsz1 : (w.alloc (.map #[] 0)).heap.size = w.heap.size + 1 := by simp
  have hsz2 : ((w.alloc (.map #[] 0)).alloc (.map #[] 0)).heap.size = w.heap.size + 2 := by simp
  refine ⟨w.heap.size + 2, w.heap.size, w.heap.size + 1, rfl, ?_, (((Below.refl _ _).alloc (Nat.le_refl _) _).alloc (by simp) _).alloc (by simp; omega) _⟩
  have hA := MapV.made (P := Try.prog) (k := 3) w
  have hB := MapV.made (P := Try.prog) (k := 3) (w.alloc (.map #[] 0))
  rw [hsz1] at hB
  refine ⟨by omega, by omega, by omega, by omega, by omega, by omega, ⟨.slice none 0 0, ?_, World.ownsRow_nil _ _ _ _⟩, ⟨List.nodup_nil, (by intro x hx; cases hx), ?_⟩, fun _ => none, ?_, fun id => rfl⟩
  · rw [← hsz2]; exact heap_alloc_new _ _
  · exact hB.kept (World.grownBy_alloc _ _ none) (by simp)
  · exact (hA.kept (World.grownBy_alloc _ _ none) (by simp)).kept (World.grownBy_alloc _ _ none) (by simp)

set_option maxHeartbeats 400000 in
theorem wlen_any (B p m1 m2 : Nat) (C : List (Int × List Int)) (S : List Int) (w : World) (h : WatchIs B p m1 m2 C S w) : Calls Try.prog 31 #[.pointer (some ⟨p, 0, none⟩)] w fun e w' => e = .returned (.int .i64 S.length) ∧ w = w' := by
  obtain ⟨v, hb, ho⟩ := h.blk
  obtain ⟨a, c, rfl, _⟩ := ho.slice
  have c1 : w.cell? ⟨p, 1, none⟩ = some (.slice a S.length c) := cell_p hb 1
  clear ho hb h
  go_enter Try.func31, Try.ntmps31
  go_wp2
  go_ret
  exact ⟨rfl, rfl⟩
set_option maxHeartbeats 400000 in
theorem wlen_nil (w : World) : Calls Try.prog 31 #[.pointer none] w fun e w' => e = .returned (.int .i64 0) ∧ w = w' := by
  go_enter Try.func31, Try.ntmps31
  go_wp2
  go_ret
  exact ⟨rfl, rfl⟩

def valW (S : List Int) (x : Int) : Int := if x == 0 then 0 else valS S x
set_option maxHeartbeats 400000 in
theorem wvalue_any (B p m1 m2 : Nat) (C : List (Int × List Int)) (S : List Int) (x : Int) (w : World) (h : WatchIs B p m1 m2 C S w) (hx : okI x) : Calls Try.prog 28 #[.pointer (some ⟨p, 0, none⟩), .int .i64 x] w fun e w' => e = .returned (.int .i64 (valW S x)) ∧ w = w' := by
  obtain ⟨v, hb, ho⟩ := h.blk
  have c2 : w.cell? ⟨p, 2, none⟩ = some (.map (some m2)) := cell_p hb 2
  have hc := Lib.hid (value_any m2 S x w h.tru hx)
  have hd := @Lib.hid (valW S x = if x == 0 then 0 else valS S x) rfl
  clear ho hb h hx
  cases h0 : x == 0
  · rw [h0] at hd
    go_enter Try.func28, Try.ntmps28
    go_wp2_with fail
    refine hc.out.mono ?_; rintro e w' ⟨rfl, rfl⟩
    go_wp2
    go_ret
    exact ⟨ret_int hd.out.symm, rfl⟩
  · rw [h0] at hd
    go_enter Try.func28, Try.ntmps28
    go_wp2
    go_ret
    exact ⟨ret_int hd.out.symm, rfl⟩
end Go.Proofs.Ytdmnpjlgldlodaa
