/-
  clause.Store: what a store in memory holds ('StoreIs'), and the contracts of New, Add, Get, Learned, Forget and Len. Conditions: slices of fewer than 2^40 ints, ids and counts that are ints.
-/
import Derived.Test.YtglbdkjdglcncaaR
import Derived.Test.YtglbdkjdglcncaaM
import Derived.StillTailTactics
namespace Go.Proofs.Ytglbdkjdglcncaa
open Go.RowKit Go.Sort Go.Lib

/-- Of the blocks that were there only those of S may have changed. -/
structure Touch (S : Nat → Prop) (w w' : World) : Prop where
  os : w'.os = w.os
  tape : w'.tape = w.tape
  output : w'.output = w.output
  size : w.heap.size ≤ w'.heap.size
  block : ∀ k, k < w.heap.size → ¬ S k → w'.heap[k]? = w.heap[k]?
theorem Touch.refl (S : Nat → Prop) (w : World) : Touch S w w := ⟨rfl, rfl, rfl, Nat.le_refl _, fun _ _ _ => rfl⟩
theorem Touch.trans {S : Nat → Prop} {a b c : World} (h : Touch S a b) (k : Touch S b c) : Touch S a c :=
  ⟨k.os.trans h.os, k.tape.trans h.tape, k.output.trans h.output, Nat.le_trans h.size k.size, fun i hi hs => (k.block i (Nat.lt_of_lt_of_le hi h.size) hs).trans (h.block i hi hs)⟩
theorem Touch.of_below {S : Nat → Prop} {w w' : World} (h : Below w.heap.size w w') : Touch S w w' := ⟨h.os, h.tape, h.output, h.size, fun k hk _ => h.block k hk⟩
theorem Touch.below {S : Nat → Prop} {w w' : World} {B : Nat} (h : Touch S w w') (hB : B ≤ w.heap.size) (hS : ∀ k, S k → B ≤ k) : Below B w w' :=
  ⟨h.os, h.tape, h.output, h.size, fun k hk => h.block k (by omega) (fun hs => by have := hS k hs; omega)⟩
theorem Touch.of_turned {S : Nat → Prop} {w w' : World} {b : Nat} (h : w.mapTurned w' b) (hb : S b) : Touch S w w' :=
  ⟨h.grown.os, h.grown.tape, h.grown.output, h.grown.size, fun k hk hs => h.grown.block k hk (fun e => by cases e; exact hs hb)⟩
theorem Touch.drewN {S : Nat → Prop} {a w : World} (h : Touch S a w) (q : Nat) : Touch S a (w.drewN q) := ⟨h.os, h.tape, h.output, h.size, h.block⟩
theorem Touch.setCell {S : Nat → Prop} {a w : World} (h : Touch S a w) {p : Addr} (hp : S p.block) (v : Value) : Touch S a (w.setCell p v) :=
  h.trans ⟨rfl, rfl, rfl, by simp [World.setCell], fun k _ hs => Below.heap_setCell _ _ _ _ (fun e => by subst e; exact hs hp)⟩
theorem Touch.alloc {S : Nat → Prop} {a w : World} (h : Touch S a w) (o : Obj) : Touch S a (w.alloc o) :=
  h.trans (.of_below ((Below.refl _ _).alloc (Nat.le_refl _) _))

/-- The slice lies in none of the blocks of S. -/
def Off (S : Nat → Prop) (a : Option Addr) : Prop := ∀ x, a = some x → ¬ S x.block
theorem RdI.touch {S : Nat → Prop} {w w' : World} {a : Option Addr} {n : Nat} {xs : List Int} (h : RdI w a n xs) (ht : Touch S w w') (ho : Off S a) : RdI w' a n xs := by
  refine ⟨h.len, h.wf, fun hn => ?_⟩
  obtain ⟨b, o, ha, hlt, hc⟩ := h.cells hn
  refine ⟨b, o, ha, Nat.lt_of_lt_of_le hlt ht.size, fun j hj => ?_⟩
  rw [World.cell?_of_block (w := w) (a := ⟨b, o + j, none⟩) (ht.block b hlt (ho _ ha))]
  exact hc j hj

structure Item where
  id : Int
  l : List Int
  learned : Bool
structure St where
  most : Int
  next : Int
  items : List Item
def findIt (l : List Item) (x : Int) : Option Item := l.find? fun it => it.id == x

/-- blocks of a store: its struct, its map -/
def Own2 (p m : Nat) (k : Nat) : Prop := k = p ∨ k = m

/-- beside the store's blocks, and from Lo on -/
def OffL (Lo p m : Nat) (a : Option Addr) : Prop := Off (Own2 p m) a ∧ ∀ y, a = some y → Lo ≤ y.block
structure StoreIs (Lo p m : Nat) (S : St) (w : World) : Prop where
  lo : Lo ≤ w.heap.size
  ne : p ≠ m
  c0 : w.cell? ⟨p, 0, none⟩ = some (.int .i64 S.most)
  c1 : w.cell? ⟨p, 1, none⟩ = some (.int .i64 S.next)
  c2 : w.cell? ⟨p, 2, none⟩ = some (.map (some m))
  f0 : ∀ j, w.frozen? ⟨p, j, none⟩ = false
  plt : p < w.heap.size
  len : S.items.length < 1152921504606846976
  map : ∃ F, MapV Try.prog 3 m S.items.length F w ∧ ∀ x,
    match findIt S.items x with
    | none => F x = none
    | some it => ∃ a n c, F x = some (.agg #[.slice a n c, .bool it.learned]) ∧ RdI w a n it.l ∧ n < 1099511627776 ∧ OffL Lo p m a

theorem under_int : Try.prog.underlying 3 = some (.int .i64) := Try.underlying3
theorem under_map : Try.prog.underlying 52 = some (.map 3 56) := Try.underlying52
theorem zero_entry (w : World) : (zeroValue 56).run Try.prog w = .ok (.agg #[.slice none 0 0, .bool false]) w := by kernel_rfl

theorem StoreIs.touch {Lo p m : Nat} {S : St} {w w' : World} (h : StoreIs Lo p m S w) (ht : Touch (fun _ => False) w w') : StoreIs Lo p m S w' := by
  obtain ⟨F, hm, hF⟩ := h.map
  have hb : w'.heap[p]? = w.heap[p]? := ht.block p h.plt (by simp)
  have hcell : ∀ j, w'.cell? ⟨p, j, none⟩ = w.cell? ⟨p, j, none⟩ := fun j => World.cell?_of_block (w := w) hb
  refine ⟨Nat.le_trans h.lo ht.size, h.ne, by rw [hcell]; exact h.c0, by rw [hcell]; exact h.c1, by rw [hcell]; exact h.c2, fun j => by rw [World.frozen?_of_block (w := w) (a := ⟨p, j, none⟩) hb]; exact h.f0 j, Nat.lt_of_lt_of_le h.plt ht.size, h.len, F, hm.same (ht.block m hm.lt (by simp)), fun x => ?_⟩
  have := hF x
  split at this
  · exact this
  · obtain ⟨a, n, c, h1, h2, h3, h4⟩ := this
    exact ⟨a, n, c, h1, h2.touch ht (fun _ _ => by simp), h3, h4⟩

theorem frozen_new (w : World) (c : Array Value) (e : TypeId) (j : Nat) : (w.alloc (.cells c e)).frozen? ⟨w.heap.size, j, none⟩ = false := by
  unfold World.frozen?
  rw [heap_alloc_new w]
  simp

set_option maxHeartbeats 400000 in
theorem new_any (most : Int) (w : World) : Calls Try.prog 5 #[.int .i64 most] w fun e w' =>
    ∃ p m, e = .returned (.pointer (some ⟨p, 0, none⟩)) ∧ StoreIs w.heap.size p m ⟨most, 0, []⟩ w' ∧ w.heap.size ≤ p ∧ w.heap.size ≤ m ∧ Below w.heap.size w w' := by
  have hmm := @run_makeMap Try.prog
  go_enter Try.func5, Try.ntmps5
  go_wp2
  go_ret
  have hsz1 : (w.alloc (.map #[] 0)).heap.size = w.heap.size + 1 := by simp
  refine ⟨w.heap.size + 1, w.heap.size, rfl, ?_, by omega, by omega, ((Below.refl _ _).alloc (Nat.le_refl _) _).alloc (by simp) _⟩
  refine ⟨by simp; omega, by omega, by simp, by simp, by simp, fun j => by rw [← hsz1]; exact frozen_new _ _ _ j, by simp, by simp, fun _ => none, ?_, fun x => rfl⟩
  have h := MapV.made (P := Try.prog) (k := 3) w
  exact h.kept (World.grownBy_alloc _ _ none) (by simp)

set_option maxHeartbeats 400000 in
theorem len_any (Lo p m : Nat) (S : St) (w : World) (h : StoreIs Lo p m S w) : Calls Try.prog 15 #[.pointer (some ⟨p, 0, none⟩)] w fun e w' => e = .returned (.int .i64 S.items.length) ∧ w = w' := by
  obtain ⟨F, hm, hF⟩ := h.map
  have hl := hm.len Try.underlying52 3
  have c2 := h.c2
  clear hF hm h
  go_enter Try.func15, Try.ntmps15
  go_wp2
  go_ret
  exact ⟨rfl, rfl⟩
set_option maxHeartbeats 400000 in
theorem len_nil (w : World) : Calls Try.prog 15 #[.pointer none] w fun e w' => e = .returned (.int .i64 0) ∧ w = w' := by
  go_enter Try.func15, Try.ntmps15
  go_wp2
  go_ret
  exact ⟨rfl, rfl⟩

theorem run_field1 (v u : Value) (w : World) : (Instr.field 56 (.agg #[v, u]) 1).run Try.prog w = .ok u w := by kernel_rfl
def learnedOf (S : St) (x : Int) : Bool := match findIt S.items x with | none => false | some it => it.learned
set_option maxRecDepth 100000 in
set_option maxHeartbeats 400000 in
theorem learned_any (Lo p m : Nat) (S : St) (x : Int) (w : World) (h : StoreIs Lo p m S w) (hx : okI x) : Calls Try.prog 13 #[.pointer (some ⟨p, 0, none⟩), .int .i64 x] w fun e w' => e = .returned (.bool (learnedOf S x)) ∧ w = w' := by
  have hfl := run_field1
  obtain ⟨F, hm, hF⟩ := h.map
  have hl := hm.look Try.underlying3 Try.underlying52 (zero_entry w) hx
  have c2 := h.c2
  have hFx := hF x
  have hd := @Lib.hid (learnedOf S x = match findIt S.items x with | none => false | some it => it.learned) rfl
  clear hF hm h hx
  cases hf : findIt S.items x with
  | none =>
    rw [hf] at hFx hd
    dsimp only at hFx hd
    rw [hFx] at hl
    simp only [Option.getD_none] at hl
    clear hFx hf
    go_enter Try.func13, Try.ntmps13
    go_wp2
    go_ret
    exact ⟨ret_bool hd.out.symm, rfl⟩
  | some it =>
    rw [hf] at hFx hd
    dsimp only at hFx hd
    obtain ⟨a, n, c, h1, _⟩ := hFx
    rw [h1] at hl
    simp only [Option.getD_some] at hl
    clear h1 hf
    go_enter Try.func13, Try.ntmps13
    go_wp2
    go_ret
    exact ⟨ret_bool hd.out.symm, rfl⟩

def lOf (S : St) (x : Int) : List Int := match findIt S.items x with | none => [] | some it => it.l
/-- what Get hands back -/
def GetPost (S : St) (x : Int) (w : World) (e : Ending) (w' : World) : Prop :=
  ∃ a n c, e = .returned (.tuple #[.slice a n c, .bool (findIt S.items x).isSome]) ∧ RdI w' a n (lOf S x) ∧ n < 1099511627776 ∧ (∀ y, a = some y → w.heap.size ≤ y.block) ∧ Below w.heap.size w w'

set_option maxRecDepth 100000 in
set_option maxHeartbeats 400000 in
theorem get_any (Lo p m : Nat) (S : St) (x : Int) (w : World) (h : StoreIs Lo p m S w) (hx : okI x) : Calls Try.prog 10 #[.pointer (some ⟨p, 0, none⟩), .int .i64 x] w fun e w' => GetPost S x w e w' := by
  obtain ⟨F, hm, hF⟩ := h.map
  have hl := hm.look_ok Try.underlying3 Try.underlying52 (zero_entry w) hx
  have c2 := h.c2
  obtain ⟨a, n, c, b, hFx, hr, hn⟩ : ∃ a n c b, (F x).getD (.agg #[.slice none 0 0, .bool false]) = .agg #[.slice a n c, .bool b] ∧ RdI w a n (lOf S x) ∧ n < 1099511627776 := by
    have := hF x
    unfold lOf
    cases hf : findIt S.items x with
    | none => rw [hf] at this; dsimp only at this; rw [this]; exact ⟨none, 0, 0, false, rfl, RdI.nil _ _, by omega⟩
    | some it => rw [hf] at this; dsimp only at this; obtain ⟨a, n, c, h1, h2, h3, _⟩ := this; rw [h1]; exact ⟨a, n, c, _, rfl, h2, h3⟩
  have hsome : (F x).isSome = (findIt S.items x).isSome := by
    have := hF x
    cases hf : findIt S.items x with
    | none => rw [hf] at this; dsimp only at this; rw [this]; rfl
    | some it => rw [hf] at this; dsimp only at this; obtain ⟨a, n, c, h1, _⟩ := this; rw [h1]; rfl
  rw [hFx, hsome] at hl
  have hr' := Lib.hid hr
  have hwf := Lib.hid hr.wf
  generalize hs : (findIt S.items x).isSome = s at *
  have hs' := Lib.hid hs
  clear hF hm h hx hFx hsome hr hs
  go_enter Try.func10, Try.ntmps10
  go_wp2_with fail
  have hB : Below w.heap.size w (w.alloc (.cells #[.slice a n c, .bool b] 56)) := (Below.refl _ _).alloc (Nat.le_refl _) _
  refine (clone_any a n c _ _ (hr'.out.below hB (Nat.le_refl _)) (by omega)).mono ?_; rintro e w1 ⟨a1, c1, rfl, ho1, hb1⟩
  have ho := RdI.own ho1 hwf.out
  have hb := hB.trans (hb1.mono (by simp))
  have ho' := Lib.hid ho
  have hb' := Lib.hid hb
  clear ho1 hb1 ho hb hB
  go_wp2
  go_ret2
  exact ⟨a1, n, c1, by rw [hs'.out]; rfl, ho'.out.2.1, hn, fun y hy => by have := (ho'.out.2.2 y hy).1; simp at this; omega, hb'.out⟩

theorem get_nil (x : Int) (w : World) : Calls Try.prog 10 #[.pointer none, .int .i64 x] w fun e w' => e = .returned (.tuple #[.slice none 0 0, .bool false]) ∧ w = w' := by
  go_enter Try.func10, Try.ntmps10
  go_wp2
  go_ret2
  exact ⟨rfl, rfl⟩

/-- Forget -/
def eForget (S : St) (x : Int) : Int := match findIt S.items x with | none => 5 | some it => if it.learned then 0 else 1
def sForget (S : St) (x : Int) : St := if eForget S x = 0 then { S with items := S.items.filter fun it => it.id != x } else S
theorem find_filter_ne (l : List Item) (x y : Int) : findIt (l.filter fun it => it.id != x) y = if y = x then none else findIt l y := by
  unfold findIt
  by_cases h : y = x
  · subst h
    rw [if_pos rfl, List.find?_eq_none]
    intro it hit
    have := (List.mem_filter.1 hit).2
    simpa using this
  · rw [if_neg h, List.find?_filter]
    congr 1
    funext it
    by_cases h2 : it.id = y
    · subst h2; simp [h]
    · simp [h2]

theorem eForget_none {S : St} {x : Int} (h : findIt S.items x = none) : eForget S x = 5 := by unfold eForget; rw [h]
theorem eForget_some {S : St} {x : Int} {it : Item} (h : findIt S.items x = some it) : eForget S x = if it.learned then 0 else 1 := by unfold eForget; rw [h]

/-- the posts of Forget -/
def ForgetPost (Lo p m : Nat) (S : St) (x : Int) (w : World) (e : Ending) (w' : World) : Prop :=
  e = .returned (.int .i64 (eForget S x)) ∧ StoreIs Lo p m (sForget S x) w' ∧ Touch (Own2 p m) w w'

theorem length_filter_find (l : List Item) (hn : l.Pairwise fun a b => a.id ≠ b.id) (x : Int) : (l.filter fun it => it.id != x).length = if (findIt l x).isSome then l.length - 1 else l.length := by
  induction l with
  | nil => rfl
  | cons it l ih =>
    obtain ⟨h1, h2⟩ := List.pairwise_cons.1 hn
    have ih := ih h2
    unfold findIt at *
    by_cases h : it.id = x
    · subst h
      have e : l.filter (fun z => z.id != it.id) = l := by
        rw [List.filter_eq_self]; intro z hz; have := h1 z hz; simp; exact fun e => this e.symm
      simp [e]
    · have hb : (it.id == x) = false := by simpa using h
      have hb' : (it.id != x) = true := by simp [h]
      simp only [List.filter_cons, hb', if_true, List.length_cons, List.find?_cons, hb, ih]
      split
      · rename_i hs
        have : l ≠ [] := by rintro rfl; simp at hs
        have := List.length_pos_iff.2 this
        omega
      · rfl

theorem StoreIs.cellsTouch {Lo p m : Nat} {S : St} {w w' : World} (h : StoreIs Lo p m S w) (ht : Touch (fun k => k = m) w w') :
    (∀ j, w'.cell? ⟨p, j, none⟩ = w.cell? ⟨p, j, none⟩) ∧ (∀ j, w'.frozen? ⟨p, j, none⟩ = w.frozen? ⟨p, j, none⟩) := by
  have hb : w'.heap[p]? = w.heap[p]? := ht.block p h.plt h.ne
  exact ⟨fun j => World.cell?_of_block (w := w) hb, fun j => World.frozen?_of_block (w := w) (a := ⟨p, j, none⟩) hb⟩

theorem forget_done {Lo p m : Nat} {S : St} {x : Int} {it : Item} {w w1 w2 : World} {F : Int → Option Value} (h : StoreIs Lo p m S w) (hnd : S.items.Pairwise fun a b => a.id ≠ b.id) (hf : findIt S.items x = some it) (he : eForget S x = 0)
    (hF : ∀ x, match findIt S.items x with
      | none => F x = none
      | some it => ∃ a n c, F x = some (.agg #[.slice a n c, .bool it.learned]) ∧ RdI w a n it.l ∧ n < 1099511627776 ∧ OffL Lo p m a)
    (hFx : (F x).isSome = true) (hB : Touch (fun _ => False) w w1) (hm3 : MapV Try.prog 3 m (if (F x).isSome then S.items.length - 1 else S.items.length) (upd F x none) w2) (ht : w1.mapTurned w2 m) :
    ForgetPost Lo p m S x w (.returned (.int .i64 0)) w2 := by
  have t1 : Touch (fun k => k = m) w w2 := (Touch.trans (S := fun k => k = m) ⟨hB.os, hB.tape, hB.output, hB.size, fun k hk _ => hB.block k hk (by simp)⟩ (Touch.of_turned ht rfl))
  have t2 : Touch (Own2 p m) w w2 := ⟨t1.os, t1.tape, t1.output, t1.size, fun k hk hs => t1.block k hk (fun e => hs (Or.inr e))⟩
  obtain ⟨g1, g2⟩ := h.cellsTouch t1
  have hs : sForget S x = { S with items := S.items.filter fun it => it.id != x } := by unfold sForget; rw [he]; rfl
  have hlen := length_filter_find S.items hnd x
  rw [hf] at hlen
  refine ⟨by rw [he], ?_, t2⟩
  rw [hs]
  rw [hFx] at hm3
  refine ⟨Nat.le_trans h.lo t1.size, h.ne, by rw [g1]; exact h.c0, by rw [g1]; exact h.c1, by rw [g1]; exact h.c2, fun j => by rw [g2]; exact h.f0 j, Nat.lt_of_lt_of_le h.plt t1.size, Nat.lt_of_le_of_lt (List.length_filter_le _ _) h.len, upd F x none, ?_, fun y => ?_⟩
  · show MapV Try.prog 3 m (S.items.filter fun it => it.id != x).length _ _
    rw [hlen]; exact hm3
  · show match findIt (S.items.filter fun it => it.id != x) y with | none => _ | some it => _
    rw [find_filter_ne]
    by_cases hy : y = x
    · rw [if_pos hy, hy, upd_same]
    · rw [if_neg hy, upd_other F _ hy]
      have := hF y
      split at this
      · exact this
      · obtain ⟨a, n, c, b1, b2, b3, b4⟩ := this
        exact ⟨a, n, c, b1, b2.touch t2 b4.1, b3, b4⟩

set_option maxRecDepth 100000 in
set_option maxHeartbeats 400000 in
theorem forget_any (Lo p m : Nat) (S : St) (x : Int) (w : World) (h : StoreIs Lo p m S w) (hx : okI x) (hnd : S.items.Pairwise fun a b => a.id ≠ b.id) : Calls Try.prog 8 #[.pointer (some ⟨p, 0, none⟩), .int .i64 x] w fun e w' => ForgetPost Lo p m S x w e w' := by
  obtain ⟨F, hm, hF⟩ := h.map
  have hl := hm.look_ok Try.underlying3 Try.underlying52 (zero_entry w) hx
  have c2 := h.c2
  have hFx := hF x
  have plt := h.plt
  have h' := Lib.hid h
  cases hf : findIt S.items x with
  | none =>
    rw [hf] at hFx
    dsimp only at hFx
    rw [hFx] at hl
    simp only [Option.getD_none, Option.isSome_none] at hl
    have he := Lib.hid (eForget_none hf)
    clear hFx hf hF hm h
    go_enter Try.func8, Try.ntmps8
    go_wp2
    go_ret
    have hs : sForget S x = S := by unfold sForget; rw [he.out]; rfl
    exact ⟨ret_int he.out.symm, by rw [hs]; exact h'.out.touch (.of_below ((Below.refl _ _).alloc (Nat.le_refl _) _)), .of_below ((Below.refl _ _).alloc (Nat.le_refl _) _)⟩
  | some it =>
    rw [hf] at hFx
    dsimp only at hFx
    obtain ⟨a, n, c, h1, _⟩ := hFx
    rw [h1] at hl
    simp only [Option.getD_some, Option.isSome_some] at hl
    have he := Lib.hid (eForget_some hf)
    cases hlr : it.learned
    · rw [hlr] at he hl
      clear hf hF hm h h1
      go_enter Try.func8, Try.ntmps8
      go_wp2
      go_ret
      have hs : sForget S x = S := by unfold sForget; rw [he.out]; rfl
      exact ⟨ret_int he.out.symm, by rw [hs]; exact h'.out.touch (.of_below ((Below.refl _ _).alloc (Nat.le_refl _) _)), .of_below ((Below.refl _ _).alloc (Nat.le_refl _) _)⟩
    · rw [hlr] at he hl
      have hB : Touch (fun _ => False) w (w.alloc (.cells #[.slice a n c, .bool true] 56)) := .of_below ((Below.refl _ _).alloc (Nat.le_refl _) _)
      have hm2 := hm.kept (World.grownBy_alloc w (.cells #[.slice a n c, .bool true] 56) none) (by simp)
      obtain ⟨w2, hd, hm3, ht⟩ := hm2.drop under_int under_map hx 0
      have hf' := Lib.hid hf
      have hm3' := Lib.hid hm3
      have ht' := Lib.hid ht
      have hB' := Lib.hid hB
      have hF' := Lib.hid hF
      have h1' := Lib.hid h1
      clear hf hF hm h h1 hm2 hm3 ht hB
      go_enter Try.func8, Try.ntmps8
      go_wp2
      go_ret
      exact forget_done h'.out hnd hf'.out (by rw [he.out]; rfl) hF'.out (by rw [h1'.out]; rfl) hB'.out hm3'.out ht'.out

/-! ### Add -/
def eAdd (S : St) (xs : List Int) : Int := if alw xs then 1 else if S.most ≤ S.items.length then 4 else 0
def idAdd (S : St) (xs : List Int) : Int := if eAdd S xs = 0 then S.next else 0
def sAdd (S : St) (xs : List Int) (b : Bool) : St := if eAdd S xs = 0 then { S with next := S.next + 1, items := S.items ++ [⟨S.next, nrm xs, b⟩] } else S
def AddPost (Lo p m : Nat) (S : St) (xs : List Int) (b : Bool) (w : World) (e : Ending) (w' : World) : Prop :=
  e = .returned (.tuple #[.int .i64 (idAdd S xs), .int .i64 (eAdd S xs)]) ∧ StoreIs Lo p m (sAdd S xs b) w' ∧ Touch (Own2 p m) w w'
theorem add_err {Lo p m : Nat} {S : St} {xs : List Int} {b : Bool} {w w1 : World} {e : Int} (h : StoreIs Lo p m S w) (hB : Below w.heap.size w w1) (he : eAdd S xs = e) (h0 : e ≠ 0) : AddPost Lo p m S xs b w (.returned (.tuple #[.int .i64 0, .int .i64 e])) w1 := by
  have h1 : idAdd S xs = 0 := by unfold idAdd; rw [if_neg (by rw [he]; exact h0)]
  have h2 : sAdd S xs b = S := by unfold sAdd; rw [if_neg (by rw [he]; exact h0)]
  exact ⟨by rw [h1, he], by rw [h2]; exact h.touch (.of_below hB), .of_below hB⟩

theorem addnil_any (a : Option Addr) (n c : Nat) (b : Bool) (w : World) : Calls Try.prog 6 #[.pointer none, .slice a n c, .bool b] w fun e w' => e = .returned (.tuple #[.int .i64 0, .int .i64 4]) ∧ w = w' := by
  go_enter Try.func6, Try.ntmps6
  go_wp2
  go_ret2
  exact ⟨rfl, rfl⟩

theorem find_snoc {l : List Item} {it : Item} (h : findIt l it.id = none) (y : Int) : findIt (l ++ [it]) y = if y = it.id then some it else findIt l y := by
  unfold findIt at *
  rw [List.find?_append]
  by_cases e : y = it.id
  · subst e; rw [h]; simp
  · have : (it.id == y) = false := by simpa using fun e' => e e'.symm
    simp [e, this]
theorem add_done {Lo p m : Nat} {S : St} {xs : List Int} {b : Bool} {w w1 w2 w3 : World} {a : Option Addr} {n c q : Nat} {F : Int → Option Value} (h0 : StoreIs Lo p m S w) (hb : Below w.heap.size w w1) (h : StoreIs Lo p m S w1) (he : eAdd S xs = 0) (hal : alw xs = false)
    (hr : RdI w1 a n (nout xs)) (hn : n < 1099511627776) (hfr : ∀ y, a = some y → w.heap.size ≤ y.block) (hf : findIt S.items S.next = none) (hlt : S.items.length + 1 < 1152921504606846976)
    (hF : ∀ x, match findIt S.items x with
      | none => F x = none
      | some it => ∃ a n c, F x = some (.agg #[.slice a n c, .bool it.learned]) ∧ RdI w1 a n it.l ∧ n < 1099511627776 ∧ OffL Lo p m a)
    (hm0 : m < w.heap.size) (hw2 : w2 = w1.drewN q) (hm3 : MapV Try.prog 3 m (if (F S.next).isSome = true then S.items.length else S.items.length + 1) (upd F S.next (some (.agg #[.slice a n c, .bool b]))) w3) (ht : w2.mapTurned w3 m) :
    AddPost Lo p m S xs b w (.returned (.tuple #[.int .i64 S.next, .int .i64 0])) (w3.setCell ⟨p, 1, none⟩ (.int .i64 (S.next + 1))) := by
  subst hw2
  have t1 : Touch (fun k => k = m) w1 w3 := Touch.trans (Touch.drewN (Touch.refl (fun k => k = m) w1) q) (Touch.of_turned ht rfl)
  obtain ⟨g1, g2⟩ := h.cellsTouch t1
  have t2 : Touch (Own2 p m) w1 w3 := ⟨t1.os, t1.tape, t1.output, t1.size, fun k hk hs => t1.block k hk (fun e => hs (Or.inr e))⟩
  have t3 : Touch (Own2 p m) w1 (w3.setCell ⟨p, 1, none⟩ (.int .i64 (S.next + 1))) := t2.setCell (Or.inl rfl) _
  have h1 : idAdd S xs = S.next := by unfold idAdd; rw [if_pos he]
  have h2 : sAdd S xs b = { S with next := S.next + 1, items := S.items ++ [⟨S.next, nrm xs, b⟩] } := by unfold sAdd; rw [if_pos he]
  have hno : nout xs = nrm xs := by unfold nout; rw [hal]; rfl
  have hFn : F S.next = none := by have := hF S.next; rw [hf] at this; exact this
  have hoff : Off (Own2 p m) a := fun y hy hs => by
    have := hfr y hy
    have := h0.plt
    rcases hs with hs | hs <;> omega
  have hc1 : w3.cell? ⟨p, 1, none⟩ = some (.int .i64 S.next) := by rw [g1]; exact h.c1
  refine ⟨by rw [h1, he], ?_, (Touch.of_below hb).trans t3⟩
  rw [h2]
  refine ⟨Nat.le_trans h.lo t3.size, h.ne, ?_, World.cell?_setCell_same _ _ _ hc1, ?_, fun j => by rw [World.frozen?_setCell, g2]; exact h.f0 j, Nat.lt_of_lt_of_le h.plt t3.size, by simpa using hlt, upd F S.next (some (.agg #[.slice a n c, .bool b])), ?_, fun y => ?_⟩
  · rw [World.cell?_setCell_other _ _ _ _ (by simp), g1]; exact h.c0
  · rw [World.cell?_setCell_other _ _ _ _ (by simp), g1]; exact h.c2
  · rw [hFn] at hm3
    have hm4 := hm3.setCell (a := ⟨p, 1, none⟩) (Ne.symm h.ne) (.int .i64 (S.next + 1))
    show MapV Try.prog 3 m (S.items ++ [(⟨S.next, nrm xs, b⟩ : Item)]).length _ _
    rw [List.length_append]
    exact hm4
  · show match findIt (S.items ++ [⟨S.next, nrm xs, b⟩]) y with | none => _ | some it => _
    rw [find_snoc hf]
    by_cases hy : y = S.next
    · rw [if_pos hy, hy, upd_same]
      exact ⟨a, n, c, rfl, by rw [← hno]; exact hr.touch t3 hoff, hn, hoff, fun y hy => Nat.le_trans h0.lo (hfr y hy)⟩
    · rw [if_neg hy, upd_other F _ hy]
      have := hF y
      split at this
      · exact this
      · obtain ⟨a, n, c, b1, b2, b3, b4⟩ := this
        exact ⟨a, n, c, b1, b2.touch t3 b4.1, b3, b4⟩

set_option maxRecDepth 100000 in
set_option maxHeartbeats 1000000 in
theorem add_any (Lo p m : Nat) (S : St) (a : Option Addr) (n c : Nat) (xs : List Int) (b : Bool) (w : World) (h : StoreIs Lo p m S w) (hx : RdI w a n xs) (hn : n < 1099511627776)
    (hnx : 0 ≤ S.next ∧ S.next < 4611686018427387904) (hfr : findIt S.items S.next = none) (hlt : S.items.length + 1 < 1152921504606846976) :
    Calls Try.prog 6 #[.pointer (some ⟨p, 0, none⟩), .slice a n c, .bool b] w fun e w' => AddPost Lo p m S xs b w e w' := by
  have h' := Lib.hid h
  have hx' := Lib.hid hx
  have hfr' := Lib.hid hfr
  have hed := @Lib.hid (eAdd S xs = if alw xs then 1 else if S.most ≤ S.items.length then 4 else 0) rfl
  clear h hx hfr
  go_enter Try.func6, Try.ntmps6
  go_wp2_with fail
  refine (norm_any a n c xs w hx'.out (by omega)).mono ?_; rintro e w1 ⟨a1, n1, c1, rfl, hr1, hfr1, hb1⟩
  have hS1 := h'.out.touch (.of_below hb1)
  have hfr1' := Lib.hid hfr1
  clear hfr1
  have hr1' := Lib.hid hr1
  have hb1' := Lib.hid hb1
  cases hal : alw xs
  case true =>
    have he : eAdd S xs = 1 := by rw [hed.out, hal]; rfl
    have he' := Lib.hid he
    clear he hS1 hr1 hb1
    go_wp2
    go_ret2
    exact add_err h'.out hb1'.out he'.out (by decide)
  case false =>
  rw [hal] at hed
  have c0 := hS1.c0
  have c1' := hS1.c1
  have c2 := hS1.c2
  have f1 := hS1.f0 1
  obtain ⟨F, hm, hF⟩ := hS1.map
  have hF' := Lib.hid hF
  have hm' := Lib.hid hm
  have hl := fun (q : Nat) => (hm.drewN q).len Try.underlying52 3
  have hal' := Lib.hid hal
  have hS1' := Lib.hid hS1
  have hlen := h'.out.len
  clear hF hm hS1 hr1 hb1 hal
  by_cases hge : S.most ≤ S.items.length
  · have he : eAdd S xs = 4 := by rw [hed.out, if_neg (by decide), if_pos hge]
    have he' := Lib.hid he
    clear he
    go_wp2
    go_quiet (fail)
    go_wp2
    go_ret2
    exact add_err h'.out (hb1'.out.drewN nq) he'.out (by decide)
  · have he : eAdd S xs = 0 := by rw [hed.out, if_neg (by decide), if_neg hge]
    have he' := Lib.hid he
    clear he
    go_wp2
    go_quiet (fail)
    go_wp2
    obtain ⟨w3, hst, hm3, ht3⟩ := (hm'.out.drewN (nq + 1)).store under_int under_map (by unfold maxLen; omega) (x := S.next) (by unfold okI; omega) (.agg #[.slice a1 n1 c1, .bool b])
    have hm3' := Lib.hid hm3
    have ht3' := Lib.hid ht3
    have tt := StoreIs.cellsTouch (hS1'.out) (Touch.trans (Touch.drewN (Touch.refl (fun k => k = m) w1) (nq + 1)) (Touch.of_turned ht3 rfl))
    have d1 := tt.1 1
    have d2 := tt.2 1
    rw [c1'] at d1
    rw [f1] at d2
    clear hm3 ht3 tt
    refine wp_tail 11 (by kernel_rfl) (by kernel_rfl) ?_
    intro W hW
    have eW : W = w1.drewN (nq + 1) := hW
    have e1 : W.cell? ⟨p, 1, none⟩ = some (.int .i64 S.next) := by rw [eW]; exact c1'
    have e2 : W.cell? ⟨p, 2, none⟩ = some (.map (some m)) := by rw [eW]; exact c2
    rw [← eW] at hst
    have eW' := Lib.hid eW
    clear hW eW hl c0 c1' c2 f1
    simp only [List.take_succ_cons, List.take_zero, List.drop_succ_cons, List.drop_zero]
    repeat still_step
    refine wpStill_nil ?_
    go_wp2
    go_ret2
    exact add_done h'.out hb1'.out hS1'.out he'.out hal'.out hr1'.out (by have := len_nout xs; have := hr1'.out.len; have := hx'.out.len; omega) hfr1'.out hfr'.out hlt hF'.out (by obtain ⟨_, hm, _⟩ := h'.out.map; exact hm.lt) eW'.out hm3'.out (by rw [eW'.out]; exact ht3'.out)
end Go.Proofs.Ytglbdkjdglcncaa
