/-
  theodolitelaw21.WatchUndo: what its loops hold: three rows of its own beside a watch. Conditions: the rows' blocks are none of the watch's.
-/
import Derived.Test.YtdmnpjlgldlodaaWL
namespace Go.Proofs.Ytdmnpjlgldlodaa
open Go.RowKit Go.Sort Go.Lib Go.Maps

theorem ownsRow_same {w w' : World} {base : Nat} {e : TypeId} {size n : Nat} {v : Value} {xs : List Value} (h : w.ownsRow base e size v n xs) (hb : ∀ k, v.ownBlock = some k → w'.heap[k]? = w.heap[k]?) : w'.ownsRow base e size v n xs := by
  refine ⟨h.1, ?_⟩
  rcases h.2 with hn | ⟨g, cap, cur, rfl, h1, h2, h3⟩
  · exact .inl hn
  · exact .inr ⟨g, cap, cur, rfl, h1, by rw [hb g rfl]; exact h2, h3⟩
/-- rows of different element types lie in different blocks -/
theorem own_ne {w : World} {b1 b2 : Nat} {e1 e2 : TypeId} {s1 s2 n1 n2 : Nat} {v1 v2 : Value} {xs1 xs2 : List Value} (h1 : w.ownsRow b1 e1 s1 v1 n1 xs1) (h2 : w.ownsRow b2 e2 s2 v2 n2 xs2) (hne : e1 ≠ e2) {k : Nat} (hk : v1.ownBlock = some k) : v2.ownBlock ≠ some k := by
  intro hk2
  rcases h1.2 with ⟨rfl, _⟩ | ⟨g, cap, cur, rfl, _, g1, _⟩
  · simp [Value.ownBlock] at hk
  rcases h2.2 with ⟨rfl, _⟩ | ⟨g', cap', cur', rfl, _, g2, _⟩
  · simp [Value.ownBlock] at hk2
  simp [Value.ownBlock] at hk hk2
  subst hk hk2
  rw [g1] at g2
  injection g2 with g2
  injection g2 with _ g2
  exact hne g2
/-- a row of one's own lies off the watch -/
def VOff (p m1 m2 : Nat) (w : World) (v : Value) : Prop := ∀ k, v.ownBlock = some k → k ≠ p ∧ k ≠ m1 ∧ k ≠ m2 ∧ rowOf w p ≠ some k
theorem VOff.wstep {p m1 m2 : Nat} {w w' : World} {base : Nat} {e : TypeId} {size n : Nat} {v : Value} {xs : List Value} (ho : w.ownsRow base e size v n xs) (h : VOff p m1 m2 w v) (hs : WStep p m1 m2 w w') : w'.ownsRow base e size v n xs ∧ VOff p m1 m2 w' v := by
  refine ⟨ownsRow_same ho fun k hk => ?_, fun k hk => ?_⟩
  · obtain ⟨h1, h2, h3, h4⟩ := h k hk
    exact (hs.block k (ho.lt k hk).2 h1 h2 h3 h4).1
  · obtain ⟨h1, h2, h3, h4⟩ := h k hk
    exact ⟨h1, h2, h3, (hs.block k (ho.lt k hk).2 h1 h2 h3 h4).2⟩
def Free (n : Nat) (a : Option Addr) (v : Value) : Prop := 0 < n → ∀ x, a = some x → v.ownBlock ≠ some x.block

/-- A row of slices U, a row of ints Z, a row of ints D, all off a watch and apart. -/
structure Rows3 (B p m1 m2 : Nat) (U : List (List Int)) (Z D : List Int) (cs : List Value) (v10 v11 v12 : Value) (w : World) : Prop where
  o12 : w.ownsRow B 3 1 v12 D.length (D.map (Value.int .i64))
  o11 : w.ownsRow B 3 1 v11 Z.length (Z.map (Value.int .i64))
  o10 : w.ownsRow B 22 1 v10 U.length cs
  f12 : VOff p m1 m2 w v12
  f11 : VOff p m1 m2 w v11
  f10 : VOff p m1 m2 w v10
  ne : ∀ k, v11.ownBlock = some k → v12.ownBlock ≠ some k
  unit : ∀ j, j < U.length → ∃ a n c, cs[j]? = some (.slice a n c) ∧ AtR p m1 m2 w a n (nthR U j) ∧ Free n a v10 ∧ Free n a v11 ∧ Free n a v12
theorem Rows3.wstep {B p m1 m2 : Nat} {U : List (List Int)} {Z D : List Int} {cs : List Value} {v10 v11 v12 : Value} {w w' : World} (h : Rows3 B p m1 m2 U Z D cs v10 v11 v12 w) (hs : WStep p m1 m2 w w') : Rows3 B p m1 m2 U Z D cs v10 v11 v12 w' := by
  obtain ⟨a1, b1⟩ := VOff.wstep h.o12 h.f12 hs
  obtain ⟨a2, b2⟩ := VOff.wstep h.o11 h.f11 hs
  obtain ⟨a3, b3⟩ := VOff.wstep h.o10 h.f10 hs
  refine ⟨a1, a2, a3, b1, b2, b3, h.ne, fun j hj => ?_⟩
  obtain ⟨a, n, c, g1, g2, g3⟩ := h.unit j hj
  exact ⟨a, n, c, g1, g2.wstep hs, g3⟩
theorem Rows3.start (B p m1 m2 : Nat) (w : World) : Rows3 B p m1 m2 [] [] [] [] (.slice none 0 0) (.slice none 0 0) (.slice none 0 0) w :=
  ⟨World.ownsRow_nil _ _ _ _, World.ownsRow_nil _ _ _ _, World.ownsRow_nil _ _ _ _, fun k hk => (by cases hk), fun k hk => (by cases hk), fun k hk => (by cases hk), fun k hk => (by cases hk), fun j hj => absurd hj (Nat.not_lt_zero _)⟩

/-- From A to B': new blocks, and what a row of one's own was turned to. -/
structure Push (A A' B' : World) (v v' : Value) : Prop where
  b : Below A.heap.size A A'
  g : A'.grownBy B' v.ownBlock
  at_ : v'.ownBlock = v.ownBlock ∨ v'.ownBlock = some A'.heap.size
variable {A A' B' : World} {v v' : Value}
theorem Push.same (h : Push A A' B' v v') {k : Nat} (hk : k < A.heap.size) (hv : v.ownBlock ≠ some k) : B'.heap[k]? = A.heap[k]? := by
  rw [h.g.block k (Nat.lt_of_lt_of_le hk h.b.size) (fun e => hv e.symm), h.b.block k hk]
theorem Push.kept (h : Push A A' B' v v') {base : Nat} {e : TypeId} {size n : Nat} {u : Value} {xs : List Value} (ho : A.ownsRow base e size u n xs) (hne : ∀ k, u.ownBlock = some k → v.ownBlock ≠ some k) : B'.ownsRow base e size u n xs :=
  ownsRow_same ho fun k hk => h.same (ho.lt k hk).2 (hne k hk)
theorem Push.size (h : Push A A' B' v v') : A.heap.size ≤ B'.heap.size := Nat.le_trans h.b.size h.g.size
theorem Push.below {B : Nat} (h : Push A A' B' v v') (hB : B ≤ A.heap.size) (hv : ∀ k, v.ownBlock = some k → B ≤ k) : Below B A B' := (h.b.mono hB).grown h.g (Nat.le_trans hB h.b.size) (fun k hk => hv k hk)
theorem Push.row {p m1 m2 : Nat} (h : Push A A' B' v v') (hp : p < A.heap.size) (hv : VOff p m1 m2 A v) : rowOf B' p = rowOf A p := rowOf_same (h.same hp (fun e => (hv p e).1 rfl))
theorem Push.off {p m1 m2 : Nat} (h : Push A A' B' v v') (hp : p < A.heap.size) (hv : VOff p m1 m2 A v) {u : Value} (hu : VOff p m1 m2 A u) : VOff p m1 m2 B' u := fun k hk => by
  obtain ⟨h1, h2, h3, h4⟩ := hu k hk
  exact ⟨h1, h2, h3, by rw [h.row hp hv]; exact h4⟩
/-- the turned row, too, lies off the watch -/
theorem Push.off' {B p m1 m2 : Nat} {C : List (Int × List Int)} {S : List Int} (h : Push A A' B' v v') (hw : WatchIs B p m1 m2 C S A) (hv : VOff p m1 m2 A v) : VOff p m1 m2 B' v' := fun k hk => by
  rw [h.row hw.plt hv]
  rcases h.at_ with e | e
  · exact hv k (by rw [← e]; exact hk)
  · rw [e] at hk
    injection hk with hk
    have h1 := hw.plt
    have h2 := hw.tru.map.lt
    obtain ⟨F, hm, _⟩ := hw.all
    have h3 := hm.lt
    have h4 := h.b.size
    refine ⟨by omega, by omega, by omega, fun e2 => ?_⟩
    have := hw.rowLt e2
    omega
theorem Push.at' {p m1 m2 n : Nat} {a : Option Addr} {l : List Int} (h : Push A A' B' v v') (hp : p < A.heap.size) (hv : VOff p m1 m2 A v) (hr : AtR p m1 m2 A a n l) (hf : Free n a v) : AtR p m1 m2 B' a n l := by
  obtain ⟨h1, h2, h3⟩ := hr
  refine ⟨⟨h1.len, h1.wf, fun hn => ?_⟩, h2, fun hn x hx => ?_⟩
  · obtain ⟨b, o, ha, hlt, hc⟩ := h1.cells hn
    refine ⟨b, o, ha, Nat.lt_of_lt_of_le hlt h.size, fun j hj => ?_⟩
    rw [World.cell?_of_block (w := A) (a := ⟨b, o + j, none⟩) (h.same hlt (hf hn ⟨b, o, none⟩ ha))]
    exact hc j hj
  · rw [h.row hp hv]; exact h3 hn x hx
theorem Push.free {p m1 m2 n : Nat} {a : Option Addr} {l : List Int} (h : Push A A' B' v v') (hr : AtR p m1 m2 A a n l) (hf : Free n a v) : Free n a v' := fun hn x hx e => by
  rcases h.at_ with e2 | e2
  · exact hf hn x hx (by rw [← e2]; exact e)
  · rw [e2] at e
    injection e with e
    obtain ⟨b, o, ha, hlt, _⟩ := hr.1.cells hn
    rw [ha] at hx
    cases hx
    have h4 := h.b.size
    have : A'.heap.size = b := e
    omega

/-- what stays of a watch's clauses: the map of clauses is as it was in wL, where all of them lay already -/
structure WatchQ (B p m1 m2 : Nat) (C : List (Int × List Int)) (wL : World) (S : List Int) (w : World) : Prop where
  was : ∃ SL, WatchIs B p m1 m2 C SL wL
  is : WatchIs B p m1 m2 C S w
  size : wL.heap.size ≤ w.heap.size
  map : w.heap[m1]? = wL.heap[m1]?
theorem MapV.fix {m n n' : Nat} {F F' : Int → Option Value} {w : World} (h : MapV Try.prog 3 m n F w) (h' : MapV Try.prog 3 m n' F' w) {x : Int} (hx : okI x) : F x = F' x := by
  have e1 := h.look_ok (t := 83) under_int under_all (zero_ints w) hx
  have e2 := h'.look_ok (t := 83) under_int under_all (zero_ints w) hx
  rw [e1] at e2
  simp only [Result.ok.injEq, Value.tuple.injEq, and_true] at e2
  simp at e2
  obtain ⟨e3, e4⟩ := e2
  cases hf : F x <;> cases hf' : F' x <;> simp_all
theorem findC_ok {C : List (Int × List Int)} (h : ∀ e ∈ C, okI e.1) {id : Int} {l : List Int} (hf : findC C id = some l) : okI id := by
  unfold findC at hf
  cases hh : C.find? (fun e => e.1 == id) with
  | none => rw [hh] at hf; cases hf
  | some e =>
    have h1 := List.find?_some hh
    have h2 := List.mem_of_find?_eq_some hh
    have : e.1 = id := by simpa using h1
    rw [← this]; exact h e h2
/-- the slices of clauses lie below wL's end -/
theorem WatchQ.clause {B p m1 m2 : Nat} {C : List (Int × List Int)} {wL w : World} {S : List Int} (hC : ∀ e ∈ C, okI e.1) (h : WatchQ B p m1 m2 C wL S w) :
    ∃ F, MapV Try.prog 3 m1 C.length F w ∧ ∀ id, match findC C id with
      | none => F id = none
      | some l => ∃ a n c, F id = some (.slice a n c) ∧ AtR p m1 m2 w a n l ∧ (0 < n → ∀ x, a = some x → x.block < wL.heap.size) := by
  obtain ⟨SL, hL⟩ := h.was
  obtain ⟨F, hm, hF⟩ := h.is.all
  obtain ⟨F0, hm0, hF0⟩ := hL.all
  have hm1 := hm0.same h.map
  refine ⟨F, hm, fun id => ?_⟩
  have h1 := hF id
  have h2 := hF0 id
  cases hc : findC C id with
  | none => rw [hc] at h1; exact h1
  | some l =>
    rw [hc] at h1 h2
    obtain ⟨a, n, c, e1, r1⟩ := h1
    obtain ⟨a0, n0, c0, e0, r0⟩ := h2
    have e := MapV.fix hm hm1 (findC_ok hC hc)
    rw [e1, e0] at e
    cases e
    refine ⟨a, n, c, e1, r1, fun hn x hx => ?_⟩
    obtain ⟨b, o, ha, hlt, _⟩ := r0.1.cells hn
    rw [ha] at hx
    cases hx
    exact hlt
theorem WatchQ.push {B p m1 m2 : Nat} {C : List (Int × List Int)} {wL : World} {S : List Int} (hC : ∀ e ∈ C, okI e.1) (hw : WatchQ B p m1 m2 C wL S A) (h : Push A A' B' v v') (hv : VOff p m1 m2 A v) (hb : ∀ k, v.ownBlock = some k → wL.heap.size ≤ k) : WatchQ B p m1 m2 C wL S B' := by
  obtain ⟨F, hm, hF⟩ := hw.clause hC
  have hi := hw.is
  obtain ⟨v0, hv0, ho0⟩ := hi.blk
  have e1 := h.same hm.lt (fun e => (hv m1 e).2.1 rfl)
  have e2 := h.same hi.tru.map.lt (fun e => (hv m2 e).2.2.1 rfl)
  have ep := h.same hi.plt (fun e => (hv p e).1 rfl)
  have hr : rowOf A p = v0.ownBlock := by unfold rowOf; rw [hv0]; rfl
  refine ⟨hw.was, ⟨hi.ne1, hi.ne2, hi.ne3, hi.bp, hi.b1, hi.b2, ⟨v0, ep.trans hv0, h.kept ho0 fun k hk e => (hv k e).2.2.2 (by rw [hr]; exact hk)⟩, ⟨hi.tru.nodup, hi.tru.wf, hi.tru.map.same e2⟩, F, hm.same e1, fun id => ?_⟩, Nat.le_trans hw.size h.size, e1.trans hw.map⟩
  have := hF id
  cases hc : findC C id with
  | none => rw [hc] at this; exact this
  | some l =>
    rw [hc] at this
    obtain ⟨a, n, c, g1, g2, g3⟩ := this
    exact ⟨a, n, c, g1, h.at' hi.plt hv g2 (fun hn x hx e => by have := hb _ e; have := g3 hn x hx; omega)⟩
theorem WatchQ.start {B p m1 m2 : Nat} {C : List (Int × List Int)} {S : List Int} {w : World} (h : WatchIs B p m1 m2 C S w) : WatchQ B p m1 m2 C w S w := ⟨⟨S, h⟩, h, Nat.le_refl _, rfl⟩
theorem WatchQ.set {B p m1 m2 : Nat} {C : List (Int × List Int)} {wL w w' : World} {S S' : List Int} (h : WatchQ B p m1 m2 C wL S w) (h' : WatchIs B p m1 m2 C S' w') (hs : WStep p p m2 w w') : WatchQ B p m1 m2 C wL S' w' := by
  have hi := h.is
  obtain ⟨F, hm, _⟩ := hi.all
  obtain ⟨v0, hv0, ho0⟩ := hi.blk
  have hr : rowOf w p = v0.ownBlock := by unfold rowOf; rw [hv0]; rfl
  exact ⟨h.was, h', Nat.le_trans h.size hs.size, (hs.block m1 hm.lt (Ne.symm hi.ne1) (Ne.symm hi.ne1) hi.ne3 (by rw [hr]; exact own_ne_map ho0 hm.isMap)).1.trans h.map⟩

section
variable {B p m1 m2 : Nat} {C : List (Int × List Int)} {wL : World} {S : List Int} {U : List (List Int)} {Z D : List Int} {cs : List Value} {v10 v11 v12 : Value}
theorem at_old {j : Nat} {cs : List Value} {u u' : Value} (h : cs[j]? = some u) : (cs ++ [u'])[j]? = some u := by
  rw [List.getElem?_append_left (List.getElem?_eq_some_iff.1 h).1]; exact h
theorem Rows3.push10 {w10 : Value} {a : Option Addr} {n c : Nat} {u : List Int} (hi : WatchIs B p m1 m2 C S A) (h : Rows3 wL.heap.size p m1 m2 U Z D cs v10 v11 v12 A) (q : Push A A' B' v10 w10) (ho : B'.ownsRow wL.heap.size 22 1 w10 (U.length + 1) (cs ++ [.slice a n c]))
    (hr : AtR p m1 m2 A a n u) (f0 : Free n a v10) (f1 : Free n a v11) (f2 : Free n a v12) : Rows3 wL.heap.size p m1 m2 (U ++ [u]) Z D (cs ++ [.slice a n c]) w10 v11 v12 B' := by
  refine ⟨q.kept h.o12 (fun k hk => own_ne h.o12 h.o10 (by decide) hk), q.kept h.o11 (fun k hk => own_ne h.o11 h.o10 (by decide) hk), by simpa using ho, q.off hi.plt h.f10 h.f12, q.off hi.plt h.f10 h.f11, q.off' hi h.f10, h.ne, fun j hj => ?_⟩
  have hlen : cs.length = U.length := by simpa using h.o10.1
  by_cases hjl : j < U.length
  · obtain ⟨a1, n1, c1, g1, g2, g3, g4, g5⟩ := h.unit j hjl
    exact ⟨a1, n1, c1, at_old g1, by rw [show nthR (U ++ [u]) j = nthR U j by simp [nthR, List.getD, List.getElem?_append_left hjl]]; exact q.at' hi.plt h.f10 g2 g3, q.free g2 g3, g4, g5⟩
  · obtain rfl : j = U.length := by simp at hj; omega
    exact ⟨a, n, c, by rw [← hlen]; simp, by rw [show nthR (U ++ [u]) U.length = u by simp [nthR, List.getD]]; exact q.at' hi.plt h.f10 hr f0, q.free hr f0, f1, f2⟩
theorem Rows3.push11 {w11 : Value} {z : Int} (hi : WatchIs B p m1 m2 C S A) (h : Rows3 wL.heap.size p m1 m2 U Z D cs v10 v11 v12 A) (q : Push A A' B' v11 w11) (ho : B'.ownsRow wL.heap.size 3 1 w11 (Z.length + 1) (Z.map (Value.int .i64) ++ [.int .i64 z])) :
    Rows3 wL.heap.size p m1 m2 U (Z ++ [z]) D cs v10 w11 v12 B' := by
  refine ⟨q.kept h.o12 (fun k hk e => h.ne k e hk), by simpa using ho, q.kept h.o10 (fun k hk => own_ne h.o10 h.o11 (by decide) hk), q.off hi.plt h.f11 h.f12, q.off' hi h.f11, q.off hi.plt h.f11 h.f10, fun k hk => ?_, fun j hj => ?_⟩
  · rcases q.at_ with e | e
    · exact h.ne k (by rw [← e]; exact hk)
    · rw [e] at hk
      injection hk with hk
      intro e2
      have h1 := (h.o12.lt k e2).2
      have h2 := q.b.size
      omega
  · obtain ⟨a1, n1, c1, g1, g2, g3, g4, g5⟩ := h.unit j hj
    exact ⟨a1, n1, c1, g1, q.at' hi.plt h.f11 g2 g4, g3, q.free g2 g4, g5⟩
theorem Rows3.push12 {w12 : Value} {x : Int} (hi : WatchIs B p m1 m2 C S A) (h : Rows3 wL.heap.size p m1 m2 U Z D cs v10 v11 v12 A) (q : Push A A' B' v12 w12) (ho : B'.ownsRow wL.heap.size 3 1 w12 (D.length + 1) (D.map (Value.int .i64) ++ [.int .i64 x])) :
    Rows3 wL.heap.size p m1 m2 U Z (D ++ [x]) cs v10 v11 w12 B' := by
  refine ⟨by simpa using ho, q.kept h.o11 (fun k hk => h.ne k hk), q.kept h.o10 (fun k hk => own_ne h.o10 h.o12 (by decide) hk), q.off' hi h.f12, q.off hi.plt h.f12 h.f11, q.off hi.plt h.f12 h.f10, fun k hk => ?_, fun j hj => ?_⟩
  · rcases q.at_ with e | e
    · rw [e]; exact h.ne k hk
    · rw [e]
      intro e2
      injection e2 with e2
      have h1 := (h.o11.lt k hk).2
      have h2 := q.b.size
      omega
  · obtain ⟨a1, n1, c1, g1, g2, g3, g4, g5⟩ := h.unit j hj
    exact ⟨a1, n1, c1, g1, q.at' hi.plt h.f12 g2 g5, g3, g4, q.free g2 g5⟩
end
/-- the cell of a new block of one cell, whatever new blocks follow -/
theorem news_one {w : World} {b : Nat} {u : Value} (h : w.cell? ⟨b, 0, none⟩ = some u) : ∀ j u', [u][j]? = some u' → w.cell? ((⟨b, 0, none⟩ : Addr).add j) = some u' := by
  intro j u' hj
  match j with
  | 0 => simp at hj; subst hj; simpa [Addr.add] using h
  | j + 1 => simp at hj
theorem one_int {x : Int} : ∀ u ∈ [Value.int .i64 x], u.oneCell' = true := by intro u hu; simp at hu; subst hu; rfl
theorem one_slice {a : Option Addr} {n c : Nat} : ∀ u ∈ [Value.slice a n c], u.oneCell' = true := by intro u hu; simp at hu; subst hu; rfl
theorem cell_lit (w : World) (u : Value) (e : TypeId) : (w.alloc (.cells #[u] e)).cell? ⟨w.heap.size, 0, none⟩ = some u := by simp [World.cell?_alloc_new]
theorem cell_more {w : World} {a : Addr} {u : Value} (h : w.cell? a = some u) (o : Obj) : (w.alloc o).cell? a = some u := by
  rw [World.cell?_alloc_lt w o a (World.block_lt_of_cell? w a h)]; exact h
theorem Push.cell (h : A'.grownBy B' v.ownBlock) {a : Addr} {u : Value} (hc : A'.cell? a = some u) (hv : v.ownBlock ≠ some a.block) : B'.cell? a = some u := h.cell hc (Ne.symm hv)

def badsOf (C : List (Int × List Int)) (D : List Int) : List Int := (List.range D.length).map fun j => setC C (D.take (j + 1))
def unitsOf (C : List (Int × List Int)) (D : List Int) : List (List Int) := (List.range D.length).map fun j => setU C (D.take (j + 1))
theorem badsOf_len (C : List (Int × List Int)) (D : List Int) : (badsOf C D).length = D.length := by simp [badsOf]
theorem unitsOf_len (C : List (Int × List Int)) (D : List Int) : (unitsOf C D).length = D.length := by simp [unitsOf]
theorem badsOf_snoc (C : List (Int × List Int)) (D : List Int) (x : Int) : badsOf C (D ++ [x]) = badsOf C D ++ [setC C (D ++ [x])] := by
  unfold badsOf
  rw [List.length_append, List.length_singleton, List.range_succ, List.map_append]
  congr 1
  · apply List.map_congr_left
    intro j hj
    have := List.mem_range.1 hj
    rw [List.take_append_of_le_length (by omega)]
  · simp [List.take_of_length_le]
theorem unitsOf_snoc (C : List (Int × List Int)) (D : List Int) (x : Int) : unitsOf C (D ++ [x]) = unitsOf C D ++ [setU C (D ++ [x])] := by
  unfold unitsOf
  rw [List.length_append, List.length_singleton, List.range_succ, List.map_append]
  congr 1
  · apply List.map_congr_left
    intro j hj
    have := List.mem_range.1 hj
    rw [List.take_append_of_le_length (by omega)]
  · simp [List.take_of_length_le]
theorem badsOf_at (C : List (Int × List Int)) (D : List Int) {j : Nat} (hj : j < D.length) : nth (badsOf C D) j = setC C (D.take (j + 1)) := by
  simp [nth, badsOf, List.getD, hj]
theorem unitsOf_at (C : List (Int × List Int)) (D : List Int) {j : Nat} (hj : j < D.length) : nthR (unitsOf C D) j = setU C (D.take (j + 1)) := by
  simp [nthR, unitsOf, List.getD, hj]

/-- the clauses of the first i rows -/
def clOf (ls : List (List Int)) : Nat → List (Int × List Int)
  | 0 => []
  | i + 1 => if (nthR ls i).length = 0 then clOf ls i else clOf ls i ++ [((i : Int), nout (nthR ls i))]
theorem clOf_id (ls : List (List Int)) (i : Nat) : ∀ e ∈ clOf ls i, 0 ≤ e.1 ∧ e.1 < i := by
  induction i with
  | zero => intro e he; cases he
  | succ i ih =>
    intro e he
    unfold clOf at he
    split at he
    · have := ih e he; omega
    · rcases List.mem_append.1 he with h | h
      · have := ih e h; omega
      · simp at h; subst h; dsimp only; omega
theorem clOf_len (ls : List (List Int)) (i : Nat) : (clOf ls i).length ≤ i := by
  induction i with
  | zero => simp [clOf]
  | succ i ih =>
    unfold clOf
    split
    · omega
    · simp; omega
theorem clOf_new (ls : List (List Int)) (i : Nat) : findC (clOf ls i) i = none := by
  unfold findC
  rw [List.find?_eq_none.2 fun e he => by have := clOf_id ls i e he; simp; omega]
  rfl
theorem clOf_bad {ls : List (List Int)} {i m : Nat} (h : wIn (nthR ls i) m = true) : badAdd (clOf ls i) i (nthR ls i) = decide ((nthR ls i).length = 0) := by
  unfold badAdd
  rw [clOf_new]
  have h0 : hasI (nthR ls i) 0 = false := by
    cases hh : hasI (nthR ls i) 0
    · rfl
    · have := inB_bd (List.all_eq_true.1 h 0 (hasI_iff.1 hh)); omega
  rw [h0]
  cases hl : (nthR ls i).length <;> simp
theorem clOf_step {ls : List (List Int)} {i m : Nat} (h : wIn (nthR ls i) m = true) : (if badAdd (clOf ls i) i (nthR ls i) then clOf ls i else clOf ls i ++ [((i : Int), nout (nthR ls i))]) = clOf ls (i + 1) := by
  rw [clOf_bad h]
  show _ = if (nthR ls i).length = 0 then clOf ls i else clOf ls i ++ [((i : Int), nout (nthR ls i))]
  by_cases hl : (nthR ls i).length = 0 <;> simp [hl]
theorem setC_ok {C : List (Int × List Int)} (h : ∀ e ∈ C, okI e.1) (S : List Int) : okI (setC C S) := by
  unfold setC
  have hall : ∀ (L : List Int) (r : Bool × Int), okI r.2 → (∀ x ∈ L, okI x) → okI (L.foldl (stepC C S) r).2 := by
    intro L
    induction L with
    | nil => intro r hr _; exact hr
    | cons x L ih =>
      intro r hr hL
      refine ih _ ?_ (fun y hy => hL y (by simp [hy]))
      unfold stepC
      split
      · exact hL x (by simp)
      · exact hr
  split
  · refine hall _ _ (by unfold okI; omega) fun x hx => ?_
    unfold idsC at hx
    obtain ⟨e, he, rfl⟩ := List.mem_map.1 hx
    exact h e he
  · unfold okI; omega
/-- rows that are read: off a watch -/
def AtRR (p m1 m2 : Nat) (w : World) (a : Option Addr) (U : List (List Int)) : Prop :=
  0 < U.length → ∃ b, a = some ⟨b, 0, none⟩ ∧ b < w.heap.size ∧ b ≠ p ∧ b ≠ m1 ∧ b ≠ m2 ∧ rowOf w p ≠ some b ∧ ∀ j, j < U.length → ∃ a' n c, w.cell? ⟨b, j, none⟩ = some (.slice a' n c) ∧ AtR p m1 m2 w a' n (nthR U j)
theorem AtRR.wstep {p m1 m2 : Nat} {w w' : World} {a : Option Addr} {U : List (List Int)} (h : AtRR p m1 m2 w a U) (hs : WStep p m1 m2 w w') : AtRR p m1 m2 w' a U := fun hn => by
  obtain ⟨b, ha, hlt, h1, h2, h3, h4, hc⟩ := h hn
  obtain ⟨e1, e2⟩ := hs.block b hlt h1 h2 h3 h4
  refine ⟨b, ha, Nat.lt_of_lt_of_le hlt hs.size, h1, h2, h3, e2, fun j hj => ?_⟩
  obtain ⟨a', n, c, g1, g2⟩ := hc j hj
  exact ⟨a', n, c, by rw [World.cell?_of_block (w := w) (a := ⟨b, j, none⟩) e1]; exact g1, g2.wstep hs⟩
theorem own_at {p m1 m2 B n : Nat} {w : World} {v : Value} {xs : List Int} (ho : w.ownsRow B 3 1 v n (xs.map (Value.int .i64))) (hv : VOff p m1 m2 w v) (hwf : WfI xs) (hn : n < 1099511627776) : ∃ a c, v = .slice a n c ∧ AtR p m1 m2 w a n xs := by
  obtain ⟨a, c, rfl, _⟩ := ho.slice
  refine ⟨a, c, rfl, (RdI.own ho hwf).2.1, hn, fun _ x hx => ?_⟩
  subst hx
  exact hv x.block rfl
theorem Rows3.reads {B p m1 m2 : Nat} {C : List (Int × List Int)} {D : List Int} {cs : List Value} {v10 v11 v12 : Value} {w : World} (hC : ∀ e ∈ C, okI e.1) (h : Rows3 B p m1 m2 (unitsOf C D) (badsOf C D) D cs v10 v11 v12 w) (hD : WfI D) (hn : D.length < 1099511627776) :
    ∃ a10 c10 a11 c11 a12 c12, v10 = .slice a10 D.length c10 ∧ v11 = .slice a11 D.length c11 ∧ v12 = .slice a12 D.length c12 ∧ AtR p m1 m2 w a12 D.length D ∧ AtR p m1 m2 w a11 D.length (badsOf C D) ∧ AtRR p m1 m2 w a10 (unitsOf C D) := by
  obtain ⟨a12, c12, e12, r12⟩ := own_at h.o12 h.f12 hD hn
  obtain ⟨a11, c11, e11, r11⟩ := own_at h.o11 h.f11 (fun z hz => by
    unfold badsOf at hz
    obtain ⟨j, _, rfl⟩ := List.mem_map.1 hz
    exact setC_ok hC _) (by rw [badsOf_len]; exact hn)
  obtain ⟨a10, c10, e10, _⟩ := h.o10.slice
  rw [badsOf_len] at e11 r11
  rw [unitsOf_len] at e10
  refine ⟨a10, c10, a11, c11, a12, c12, e10, e11, e12, r12, r11, fun hu => ?_⟩
  obtain ⟨g, cap, hv, _, hlt⟩ := h.o10.form hu
  have ha : a10 = some ⟨g, 0, none⟩ := by rw [e10] at hv; injection hv
  have hb : v10.ownBlock = some g := by rw [hv]; rfl
  obtain ⟨h1, h2, h3, h4⟩ := h.f10 g hb
  refine ⟨g, ha, hlt, h1, h2, h3, h4, fun j hj => ?_⟩
  obtain ⟨a', n', c', q1, q2, _⟩ := h.unit j hj
  refine ⟨a', n', c', ?_, q2⟩
  have := h.o10.cells hb j _ q1
  rwa [show (⟨g, 0, none⟩ : Addr).add j = ⟨g, j, none⟩ by rw [Addr.add_lit]; simp] at this
theorem undoN_nat {k : Nat} {D : List Int} (hk : k ≤ D.length) : undoN k D = k := by unfold undoN; omega
end Go.Proofs.Ytdmnpjlgldlodaa
