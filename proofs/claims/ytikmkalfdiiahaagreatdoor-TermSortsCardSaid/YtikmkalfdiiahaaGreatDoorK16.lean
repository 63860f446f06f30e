/-
  Parts of this claim's texts, one behind the other: ZU ZP ZV ZW. No condition.
-/
import Derived.Test.YtikmkalfdiiahaaGreatDoorK12
set_option linter.unusedVariables false
set_option linter.unusedSimpArgs false
/-
  theodolitelaw7.TermSorts: the law, without the program: what each operator says to any five constants. No condition.
-/
namespace Go.Proofs.YtikmkalfdiiahaaGreatDoor
open Go.RowKit Go.Sort Go.Lib

def nmK (k : Int) : ByteArray := if k = 0 then sp else if k = 1 then sx else sa
def opsL : List Int := [1, 3, 4, 6, 8, 9, 10, 13, 14, 17, 7, 20]
def stepK (s : TermD × List Int) (k : Int) : TermD × List Int := ((makeD s.1 12 (nmK k) noRat []).2, s.2 ++ [(makeD s.1 12 (nmK k) noRat []).1.1])
def cntK (ks : List Int) (k : Int) : Nat := (ks.filter fun x => x == k).length
def goodS (ks : List Int) (o : Int) : Bool × Int :=
  if o = 1 then (decide (ks.length = 0), 0)
  else if o = 3 then (decide (ks.length = 1) && decide (cntK ks 0 = 1), 0)
  else if o = 4 ∨ o = 6 ∨ o = 7 then (decide (2 ≤ ks.length) && decide (cntK ks 0 = ks.length), 0)
  else if o = 8 ∨ o = 9 then (decide (2 ≤ ks.length) && (decide (cntK ks 0 = ks.length) || decide (cntK ks 1 = ks.length) || decide (cntK ks 2 = ks.length)), 0)
  else if o = 10 then (decide (ks.length = 3) && (nth ks 0 == 0) && (nth ks 1 == nth ks 2), if decide (ks.length = 3) && (nth ks 0 == 0) && (nth ks 1 == nth ks 2) then nth ks 1 else 0)
  else if o = 13 then (decide (2 ≤ ks.length) && decide (cntK ks 1 = ks.length), 1)
  else if o = 14 then (decide (1 ≤ ks.length) && decide (cntK ks 1 = ks.length), 1)
  else (decide (2 ≤ ks.length) && decide (cntK ks 1 = ks.length), 0)
def chkO (s : TermD × List Int) (ks : List Int) (o : Int) : Bool :=
  if (goodS ks o).1 then (makeD s.1 o ⟨#[]⟩ noRat s.2).1.2 == 0 && (sortOf (makeD s.1 o ⟨#[]⟩ noRat s.2).2 (makeD s.1 o ⟨#[]⟩ noRat s.2).1.1 == ((goodS ks o).2, true))
  else ((makeD s.1 o ⟨#[]⟩ noRat s.2).1 == (0, 3))
def dfs : Nat → TermD × List Int → List Int → Bool
  | 0, s, ks => opsL.all (chkO s ks)
  | n + 1, s, ks => opsL.all (chkO s ks) && (dfs n (stepK s 0) (ks ++ [0]) && (dfs n (stepK s 1) (ks ++ [1]) && dfs n (stepK s 2) (ks ++ [2])))
theorem dfs_sound : ∀ (n : Nat) (s : TermD × List Int) (ks l : List Int), dfs n s ks = true → l.length ≤ n → (∀ x ∈ l, x = 0 ∨ x = 1 ∨ x = 2) → ∀ o ∈ opsL, chkO (l.foldl stepK s) (ks ++ l) o = true
  | n, s, ks, [], h, _, _, o, ho => by
    rw [List.append_nil]
    cases n with
    | zero => exact List.all_eq_true.1 h o ho
    | succ n => simp only [dfs, Bool.and_eq_true] at h; exact List.all_eq_true.1 h.1 o ho
  | 0, s, ks, x :: l, _, hl, _, o, ho => by simp at hl
  | n + 1, s, ks, x :: l, h, hl, hx, o, ho => by
    simp only [dfs, Bool.and_eq_true] at h
    have e : ks ++ x :: l = (ks ++ [x]) ++ l := by simp
    rw [e, List.foldl_cons]
    have hl' : l.length ≤ n := by simpa using hl
    have hx' : ∀ y ∈ l, y = 0 ∨ y = 1 ∨ y = 2 := fun y hy => hx y (by simp [hy])
    rcases hx x (by simp) with rfl | rfl | rfl
    · exact dfs_sound n _ _ l h.2.1 hl' hx' o ho
    · exact dfs_sound n _ _ l h.2.2.1 hl' hx' o ho
    · exact dfs_sound n _ _ l h.2.2.2 hl' hx' o ho
set_option maxRecDepth 100000 in
theorem dfs5 : dfs 5 (A0, []) [] = true := by decide +kernel
def tabK (ks : List Int) : TermD := (ks.foldl stepK (A0, [])).1
def argK (ks : List Int) : List Int := (ks.foldl stepK (A0, [])).2
theorem tabK_snoc (ks : List Int) (k : Int) : tabK (ks ++ [k]) = (makeD (tabK ks) 12 (nmK k) noRat []).2 := by unfold tabK; rw [List.foldl_append]; rfl
theorem argK_snoc (ks : List Int) (k : Int) : argK (ks ++ [k]) = argK ks ++ [(makeD (tabK ks) 12 (nmK k) noRat []).1.1] := by unfold argK tabK; rw [List.foldl_append]; rfl
theorem argK_len (ks : List Int) : (argK ks).length = ks.length := by
  unfold argK
  have : ∀ (l : List Int) (s : TermD × List Int), (l.foldl stepK s).2.length = s.2.length + l.length := fun l => by
    induction l with
    | nil => intro s; rfl
    | cons x l ih => intro s; rw [List.foldl_cons, ih]; simp [stepK]; omega
  rw [this]; simp
theorem tabK_ok (ks : List Int) : TermOk (tabK ks) := by
  unfold tabK
  have : ∀ (l : List Int) (s : TermD × List Int), TermOk s.1 → TermOk (l.foldl stepK s).1 := fun l => by
    induction l with
    | nil => intro s h; exact h
    | cons x l ih => intro s h; rw [List.foldl_cons]; exact ih _ (h.make (by decide) (by decide))
  exact this ks _ (TermOk.empty 10)
theorem sorts_law {ks : List Int} (hl : ks.length ≤ 5) (hk : ∀ x ∈ ks, x = 0 ∨ x = 1 ∨ x = 2) {o : Int} (ho : o ∈ opsL) :
    ((goodS ks o).1 = true → (makeD (tabK ks) o ⟨#[]⟩ noRat (argK ks)).1.2 = 0 ∧ sortOf (makeD (tabK ks) o ⟨#[]⟩ noRat (argK ks)).2 (makeD (tabK ks) o ⟨#[]⟩ noRat (argK ks)).1.1 = ((goodS ks o).2, true)) ∧
    ((goodS ks o).1 = false → (makeD (tabK ks) o ⟨#[]⟩ noRat (argK ks)).1 = (0, 3)) := by
  have h := dfs_sound 5 _ _ ks dfs5 hl hk o ho
  rw [List.nil_append] at h
  unfold chkO at h
  refine ⟨fun hg => ?_, fun hg => ?_⟩
  · rw [if_pos hg] at h
    simp only [Bool.and_eq_true, beq_iff_eq] at h
    exact h
  · rw [hg] at h
    exact eq_of_beq h
theorem cntK_snoc (ks : List Int) (k j : Int) : cntK (ks ++ [k]) j = if k = j then cntK ks j + 1 else cntK ks j := by
  unfold cntK
  rw [List.filter_append, List.length_append]
  by_cases h : k = j
  · subst h; simp
  · simp [h]
theorem cntK_le (ks : List Int) (j : Int) : cntK ks j ≤ ks.length := List.length_filter_le _ _
end Go.Proofs.YtikmkalfdiiahaaGreatDoor

/-
  Rows of a law's own beside a table of terms: the blocks that are not the table's ('TermD.X'), changed between two steps of the table. No condition.
-/
namespace Go.Proofs.YtikmkalfdiiahaaGreatDoor
open Go.RowKit Go.Sort Go.Lib

section
variable (T : TermD) (X : Nat → Prop)
theorem sameSorts_X : ∀ (l m : List Int), sameSorts { T with X := X } l m = sameSorts T l m
  | [], _ => rfl
  | _ :: _, [] => rfl
  | a :: l, s :: m => by unfold sameSorts; rw [sameSorts_X l m]; rfl
theorem callD_X (nm : ByteArray) (args : List Int) : callD { T with X := X } nm args = callD T nm args := by unfold callD; rw [sameSorts_X]
theorem sortedD_X (op : Int) (nm : ByteArray) (args : List Int) : sortedD { T with X := X } op nm args = sortedD T op nm args := by unfold sortedD; rw [callD_X]; rfl
theorem putD_X (n : NodeD) : putD { T with X := X } n = ((putD T n).1, { (putD T n).2 with X := X }) := by
  unfold putD
  dsimp only
  cases T.ids (keyB n) with
  | some i => rfl
  | none =>
    dsimp only
    by_cases h : 16384 ≤ T.nodes.length
    · rw [if_pos h, if_pos h]
    · rw [if_neg h, if_neg h]; rfl
theorem makeD_X (op : Int) (nm : ByteArray) (val : RatD) (args : List Int) : makeD { T with X := X } op nm val args = ((makeD T op nm val args).1, { (makeD T op nm val args).2 with X := X }) := by
  unfold makeD
  rw [sortedD_X]
  have e : args.any (fun i => !hasT { T with X := X } i) = args.any (fun i => !hasT T i) := rfl
  rw [e]
  split
  · rfl
  · split
    · rfl
    · split
      · rfl
      · split
        · exact putD_X T X _
        · rfl
theorem freshD_X (s : Int) : freshD { T with X := X } s = ((freshD T s).1, { (freshD T s).2 with X := X }) := by
  unfold freshD
  have e : freshNode { T with X := X } s = freshNode T s := rfl
  rw [e, putD_X]
  dsimp only
  split
  · split
    · rfl
    · rfl
  · rfl
end
theorem SmT.X {T : TermD} (h : SmT T) (X : Nat → Prop) : SmT { T with X := X } := ⟨h.nn, h.cn, h.le, h.fr, h.s, h.ids⟩
theorem TermOk.X {T : TermD} (h : TermOk T) (X : Nat → Prop) : TermOk { T with X := X } := ⟨h.sm.X X, h.sn, h.ord⟩
section
variable {w0 w w' : World} {p n s : Nat} {t : TypeId} {T : TermD} {v v' : Value} {xs : List Value}
/-- a row of the law's own stands behind a step of the table -/
theorem OwnC.tstep (ho : OwnC w w0.heap.size t s v n xs) (h : St w0 p T w) (hX : ∀ k, v.ownBlock = some k → T.X k) (hs : TStep p w w') : OwnC w' w0.heap.size t s v n xs :=
  ho.same fun k hk => (hs.block k (ho.lt k hk).2 (by obtain ⟨q, v1, v2, m, ha⟩ := h.t; exact (ha.xlt k (hX k hk)).2.1)).1
/-- a block of the law's own stands behind a step of the table -/
theorem St.own (h : St w0 p T w) {k : Nat} (hX : T.X k) (hs : TStep p w w') : w'.heap[k]? = w.heap[k]? := by
  obtain ⟨q, v1, v2, m, ha⟩ := h.t
  exact (hs.block k (ha.xlt k hX).1 (ha.xlt k hX).2.1).1
/-- behind a write to blocks of the law's own, and new ones -/
theorem St.excl (h : St w0 p T w) {X' : Nat → Prop} (hb : Below w0.heap.size w w') (hk : ∀ k, k < w.heap.size → ¬ T.X k → w'.heap[k]? = w.heap[k]?) (hx : ∀ k, X' k → (T.X k ∨ w.heap.size ≤ k) ∧ k < w'.heap.size) : St w0 p { T with X := X' } w' :=
  ⟨h.t.excl hk hb.size hx, h.b.trans hb⟩
end
end Go.Proofs.YtikmkalfdiiahaaGreatDoor

/-
  theodolitelaw7.TermSorts: the law's own blocks beside its table, and a round of its loop. No condition.
-/
namespace Go.Proofs.YtikmkalfdiiahaaGreatDoor
open Go.RowKit Go.Sort Go.Lib

def rowC (cb : Nat) (v : Value) (k : Nat) : Prop := k = cb ∨ v.ownBlock = some k
/-- the law's own state: its table, its names, how many of each, its arguments -/
structure SrtR (w0 : World) (p g cb : Nat) (ks : List Int) (v : Value) (w : World) : Prop where
  st : St w0 p { tabK ks with X := rowC cb v } w
  nm : w.heap[g]? = some (.cells #[.string sp, .string sx, .string sa] 9 (0, 0))
  cn : w.heap[cb]? = some (.cells #[.int .i64 (cntK ks 0), .int .i64 (cntK ks 1), .int .i64 (cntK ks 2)] 56 (0, 0))
  ow : OwnC w w0.heap.size 3 1 v ks.length ((argK ks).map (Value.int .i64))
  ge : w0.heap.size ≤ g ∧ w0.heap.size ≤ cb
section
variable {w0 w w1 w2 w' : World} {p g cb : Nat} {ks : List Int} {v v' : Value}
theorem SrtR.all (h : SrtR w0 p g cb ks v w) (hb : Below w.heap.size w w') : SrtR w0 p g cb ks v w' :=
  ⟨h.st.all hb, (hb.block _ (Array.getElem?_eq_some_iff.1 h.nm).1).trans h.nm, (hb.block _ (Array.getElem?_eq_some_iff.1 h.cn).1).trans h.cn, h.ow.same fun k hk => hb.block k (h.ow.lt k hk).2, h.ge⟩
theorem SrtR.start (h : St w0 p A0 w) : SrtR w0 p w.heap.size (w.heap.size + 1) [] (.slice none 0 0) ((w.alloc (.cells #[.string sp, .string sx, .string sa] 9)).alloc (.cells #[.int .i64 0, .int .i64 0, .int .i64 0] 56)) := by
  have b1 : Below w.heap.size w (w.alloc (.cells #[.string sp, .string sx, .string sa] 9)) := (Below.refl _ _).alloc (Nat.le_refl _) _
  have b2 : Below (w.alloc (.cells #[.string sp, .string sx, .string sa] 9)).heap.size (w.alloc (.cells #[.string sp, .string sx, .string sa] 9)) ((w.alloc (.cells #[.string sp, .string sx, .string sa] 9)).alloc (.cells #[.int .i64 0, .int .i64 0, .int .i64 0] 56)) := (Below.refl _ _).alloc (Nat.le_refl _) _
  have b3 := b1.trans (b2.mono b1.size)
  have g1 := heap_alloc_new w (.cells #[.string sp, .string sx, .string sa] 9)
  have g2 := heap_alloc_new (w.alloc (.cells #[.string sp, .string sx, .string sa] 9)) (.cells #[.int .i64 0, .int .i64 0, .int .i64 0] 56)
  rw [World.size_alloc] at g2
  refine ⟨h.excl (b3.mono h.b.size) (fun k hk _ => b3.block k hk) (fun k e => ?_), ?_, g2, OwnC.nil _ _ _ _, ⟨h.b.size, by have := h.b.size; omega⟩⟩
  · rcases e with rfl | e
    · exact ⟨.inr (by omega), by simp [World.size_alloc]⟩
    · cases e
  · exact (b2.block _ (by rw [World.size_alloc]; omega)).trans g1
theorem SrtR.next (h : SrtR w0 p g cb ks v w) {r : Int} (t : TermX w0.heap.size p { tabK (ks ++ [r]) with X := rowC cb v } w1) (s : TStep p w w1) (hg : w1.grownBy w2 v.ownBlock) (hl : v'.ownBlock = v.ownBlock ∨ ∀ k, v'.ownBlock = some k → w1.heap.size ≤ k)
    (ho : OwnC w2 w0.heap.size 3 1 v' (ks.length + 1) ((argK (ks ++ [r])).map (Value.int .i64))) (j : Nat) (hj : j < 3) (hr : r = (j : Int)) : SrtR w0 p g cb (ks ++ [r]) v' (w2.setCell ⟨cb, j, none⟩ (.int .i64 ((cntK ks r : Int) + 1))) := by
  have h1 := h.st.step t s
  have nm1 := (h.st.t.stay s ⟨_, _, h.nm⟩ (by decide) (by decide) (by decide)).trans h.nm
  have cn1 := (h.st.t.stay s ⟨_, _, h.cn⟩ (by decide) (by decide) (by decide)).trans h.cn
  have ow1 := h.ow.tstep h.st (fun k hk => .inr hk) s
  have hgne : some g ≠ v.ownBlock := fun e => by
    obtain ⟨cs, f, hc⟩ := ow1.ty g e.symm
    rw [nm1] at hc
    injection hc with hc
    injection hc with _ hc _
    exact absurd hc (by decide)
  have hcne : some cb ≠ v.ownBlock := fun e => by
    obtain ⟨cs, f, hc⟩ := ow1.ty cb e.symm
    rw [cn1] at hc
    injection hc with hc
    injection hc with _ hc _
    exact absurd hc (by decide)
  have nm2 := (hg.block g (Array.getElem?_eq_some_iff.1 nm1).1 hgne).trans nm1
  have cn2 := (hg.block cb (Array.getElem?_eq_some_iff.1 cn1).1 hcne).trans cn1
  have hgc : g ≠ cb := fun e => by
    rw [e, cn2] at nm2
    injection nm2 with hc
    injection hc with _ hc _
    exact absurd hc (by decide)
  have hvc : ∀ k, v'.ownBlock = some k → k ≠ cb := fun k hk e => by
    obtain ⟨cs, f, hc⟩ := ho.ty k hk
    rw [e, cn2] at hc
    injection hc with hc
    injection hc with _ hc _
    exact absurd hc (by decide)
  have o2 : ∀ k, k ≠ cb → (w2.setCell ⟨cb, j, none⟩ (.int .i64 ((cntK ks r : Int) + 1))).heap[k]? = w2.heap[k]? := fun k hk => Below.heap_setCell _ _ _ _ (fun e => hk e)
  have hsz : (w2.setCell ⟨cb, j, none⟩ (.int .i64 ((cntK ks r : Int) + 1))).heap.size = w2.heap.size := by simp [World.setCell]
  have hb : Below w0.heap.size w1 w2 := (Below.refl _ _).grown hg h1.b.size (fun k hk => (ow1.lt k hk).1)
  refine ⟨h1.excl (X' := rowC cb v') ⟨hb.os, hb.tape, hb.output, by rw [hsz]; exact hb.size, fun k hk => (o2 k (by have := h.ge.2; omega)).trans (hb.block k hk)⟩ (fun k hk hn => (o2 k fun e => hn (.inl e)).trans (hg.block k hk fun e => hn (.inr e.symm))) (fun k e => ?_), (o2 g hgc).trans nm2, ?_, ?_, h.ge⟩
  · rcases e with rfl | e
    · exact ⟨.inl (.inl rfl), by rw [hsz]; exact (Array.getElem?_eq_some_iff.1 cn2).1⟩
    · refine ⟨?_, by rw [hsz]; exact (ho.lt k e).2⟩
      rcases hl with hl | hl
      · exact .inl (.inr (by rw [← hl]; exact e))
      · exact .inr (hl k e)
  · have hj3 : j = 0 ∨ j = 1 ∨ j = 2 := by omega
    have e : (w2.setCell ⟨cb, j, none⟩ (.int .i64 ((cntK ks r : Int) + 1))).heap[cb]? = some (.cells (#[.int .i64 (cntK ks 0), .int .i64 (cntK ks 1), .int .i64 (cntK ks 2)].setIfInBounds j (.int .i64 ((cntK ks r : Int) + 1))) 56 (0, 0)) := by
      unfold World.setCell
      rw [Array.getElem?_modify, if_pos rfl, cn2]
      rfl
    rw [e, hr]
    rw [cntK_snoc, cntK_snoc, cntK_snoc]
    rcases hj3 with rfl | rfl | rfl <;> rfl
  · have := ho.same (w' := w2.setCell ⟨cb, j, none⟩ (.int .i64 ((cntK ks r : Int) + 1))) fun k hk => o2 k (hvc k hk)
    rw [List.length_append, List.length_singleton]
    exact this
end
theorem roundI3 (x : Int) : roundI x 3 = 0 ∨ roundI x 3 = 1 ∨ roundI x 3 = 2 := by
  obtain ⟨h1, h2⟩ := roundI_bd x 3 (by decide)
  omega
def oneB (ks : List Int) : Bool := decide (cntK ks 0 = ks.length) || decide (cntK ks 1 = ks.length) || decide (cntK ks 2 = ks.length)
end Go.Proofs.YtikmkalfdiiahaaGreatDoor

/-
  theodolitelaw7.TermSorts: the walk: it returns true and writes nothing old. Condition: the library's tables as its text lays them.
-/
namespace Go.Proofs.YtikmkalfdiiahaaGreatDoor
open Go.RowKit Go.Sort Go.Lib

theorem ownC_args {w : World} {base n c : Nat} {a : Option Addr} {xs : List Int} (h : OwnC w base 3 1 (.slice a n c) n (xs.map (Value.int .i64))) (hx : ∀ x ∈ xs, okI x) {op : Int} (ho : okI op) (h11 : op ≠ 11) : MArgs w ⟨#[]⟩ noRat xs op none none a 0 0 c := by
  obtain ⟨a', c', hv, h1, h2⟩ := h.slice
  injection hv with e1 e2 e3
  subst e3
  have hl := h.1
  have hl2 : xs.length = n := by simpa using hl
  subst hl2
  have hR : RdI w a xs.length xs := by
    refine ⟨rfl, hx, fun hn => ?_⟩
    obtain ⟨g, cap, hv, h3, h4⟩ := h.form hn
    injection hv with e1 e2 e3
    subst e1
    refine ⟨g, 0, rfl, h4, fun j hj => ?_⟩
    rw [Nat.zero_add]
    refine h.cells rfl j _ ?_
    rw [List.getElem?_map, List.getElem?_eq_getElem hj, nth_eq hj]; rfl
  have hD : SlR Rep.int (DatB w) w a xs.length xs := SlR.ofI hR fun x hn e => by
    obtain ⟨g, cap, hv, _⟩ := h.form hn
    injection hv with h1 h2 h3
    rw [h1] at e
    injection e with e
    subst e
    obtain ⟨cs, f, hc⟩ := h.ty g (by rw [h1]; rfl)
    exact ⟨cs, f, .inl hc⟩
  exact ⟨SlR.nil _ _ _ _, SlR.nil _ _ _ _, hD, ⟨Nat.le_refl _, Nat.zero_le _⟩, ⟨Nat.le_refl _, Nat.zero_le _⟩, ⟨h1, h2⟩, by decide, by decide, ho, fun e => absurd e h11⟩
theorem put_bd {T : TermD} (h : SmT T) (n : NodeD) : 0 ≤ (putD T n).1.1 ∧ (putD T n).1.1 ≤ 16384 := by
  have hle := h.le
  cases hk : T.ids (keyB n) with
  | some i => rw [put_some hk]; have := h.ids _ _ hk; dsimp only; omega
  | none =>
    by_cases hl : 16384 ≤ T.nodes.length
    · rw [put_full hk hl]; dsimp only; omega
    · rw [put_addN hk (by omega)]; dsimp only; omega
theorem make_bd {T : TermD} (h : SmT T) (op : Int) (nm : ByteArray) (val : RatD) (args : List Int) : 0 ≤ (makeD T op nm val args).1.1 ∧ (makeD T op nm val args).1.1 ≤ 16384 := by
  unfold makeD
  split
  · dsimp only; omega
  · split
    · dsimp only; omega
    · split
      · dsimp only; omega
      · split
        · exact put_bd h _
        · dsimp only; omega
theorem argK_bd (ks : List Int) : ∀ x ∈ argK ks, 0 ≤ x ∧ x ≤ 16384 := by
  unfold argK
  have : ∀ (l : List Int) (s : TermD × List Int), TermOk s.1 → (∀ x ∈ s.2, 0 ≤ x ∧ x ≤ 16384) → ∀ x ∈ (l.foldl stepK s).2, 0 ≤ x ∧ x ≤ 16384 := fun l => by
    induction l with
    | nil => intro s _ h; exact h
    | cons y l ih =>
      intro s h h2
      rw [List.foldl_cons]
      refine ih _ (h.make (by decide) (by decide)) fun x hx => ?_
      rcases List.mem_append.1 hx with hx | hx
      · exact h2 x hx
      · obtain rfl := List.mem_singleton.1 hx; exact make_bd h.sm _ _ _ _
  exact this ks _ (TermOk.empty 10) (fun x hx => by cases hx)
theorem nmK_size (k : Int) : (nmK k).size ≤ 1000000 := by unfold nmK; split; · decide
                                                          split <;> decide
theorem snoc3 {xs : List Int} {k : Nat} (h : k < xs.length) (n : Int) : (xs.take (k + 1)).map (roundI · n) = (xs.take k).map (roundI · n) ++ [roundI (nth xs k) n] := by
  rw [List.take_succ_eq_append_getElem h, List.map_append, nth_eq h]; rfl
theorem nth_round {xs ks : List Int} (h : ks = xs.map (roundI · 3)) {j : Nat} (hj : j < ks.length) : nth ks j = roundI (nth xs j) 3 := by
  have hj2 : j < xs.length := by rw [h, List.length_map] at hj; exact hj
  rw [nth_eq hj, nth_eq hj2]
  subst h
  exact List.getElem_map _
theorem ops_ok {o : Int} (h : o ∈ opsL) : okI o ∧ o ≠ 11 := by
  have ho : o = 1 ∨ o = 3 ∨ o = 4 ∨ o = 6 ∨ o = 8 ∨ o = 9 ∨ o = 10 ∨ o = 13 ∨ o = 14 ∨ o = 17 ∨ o = 7 ∨ o = 20 := by simpa [opsL] using h
  unfold okI
  omega
theorem opsL_mem (r : Nat) (h : r < 12) : nth opsL r ∈ opsL := by
  have : ∀ r : Fin 12, nth opsL r.val ∈ opsL := by decide
  exact this ⟨r, h⟩
theorem opsL_at (w : World) (r : Nat) (h : r < 12) : (w.alloc (.cells #[.int .i64 1, .int .i64 3, .int .i64 4, .int .i64 6, .int .i64 8, .int .i64 9, .int .i64 10, .int .i64 13, .int .i64 14, .int .i64 17, .int .i64 7, .int .i64 20] 3)).cell? ⟨w.heap.size, r, none⟩ = some (.int .i64 (nth opsL r)) := by
  rw [World.cell?_alloc_new]
  have : ∀ r : Fin 12, (#[Value.int .i64 1, .int .i64 3, .int .i64 4, .int .i64 6, .int .i64 8, .int .i64 9, .int .i64 10, .int .i64 13, .int .i64 14, .int .i64 17, .int .i64 7, .int .i64 20] : Array Value)[r.val]? = some (.int .i64 (nth opsL r.val)) := fun r => by
    obtain ⟨r, h⟩ := r
    have e : r = 0 ∨ r = 1 ∨ r = 2 ∨ r = 3 ∨ r = 4 ∨ r = 5 ∨ r = 6 ∨ r = 7 ∨ r = 8 ∨ r = 9 ∨ r = 10 ∨ r = 11 := by omega
    rcases e with rfl | rfl | rfl | rfl | rfl | rfl | rfl | rfl | rfl | rfl | rfl | rfl <;> rfl
  exact this ⟨r, h⟩
set_option maxRecDepth 100000 in
set_option maxHeartbeats 32000000 in
theorem termSorts_walk (op : Int) (a : Option Addr) (n c : Nat) (xs : List Int) (w : World) (hE : EnvT w) (hx : RdI w a n xs) (_hn : n ≤ c ∧ c ≤ 9223372036854775807) :
    Calls Tryz.prog 7 #[.int .i64 op, .slice a n c] w fun e w' => e = .returned (.bool true) ∧ Below w.heap.size w w' := by
  have hE' := Lib.hid hE
  have haw := Lib.hid (awake7_any w hE)
  have hx' := Lib.hid hx
  have hxl := Lib.hid hx.len
  clear hE hx
  by_cases g2 : 5 < n
  · have g4 : (5 : Int) < n := by omega
    go_enter Tryz.func7, Tryz.ntmps7
    go_wp2_with fail
    refine haw.out.mono ?_; rintro e w' ⟨rfl, b⟩
    go_wp2
    go_ret
    exact ⟨rfl, b⟩
  have g4 : ¬ ((5 : Int) < n) := by omega
  clear haw
  have htb := Lib.hid (tables_any w hE'.out.env)
  go_enter Tryz.func7, Tryz.ntmps7
  go_wp2_with fail
  refine htb.out.mono ?_; rintro e w1 ⟨p, r, rfl, t1, b1⟩
  have R0 := Lib.hid (SrtR.start (show St w p A0 w1 from ⟨t1, b1⟩))
  clear t1 b1 htb
  obtain ⟨i0, hi0, hz0, hz1, hz2⟩ := info_parts info_int
  have hn5 : n ≤ 5 := by omega
  go_wp2
  go_loopw [8, 11, 12] (fun v8 v11 _ wr => ∃ (k : Nat) (ks : List Int), k ≤ n ∧ v11 = .int .i64 k ∧ Hid (ks = (xs.take k).map (roundI · 3)) ∧ Hid (ks.length = k) ∧ Hid (SrtR w p w1.heap.size (w1.heap.size + 1) ks v8 wr)) (fun _ v11 _ _ => n - (intOf v11).toNat)
  case atStart => exact ⟨0, [], Nat.zero_le _, rfl, rfl, rfl, R0.out⟩
  case round =>
    obtain ⟨k, ks, hk, rfl, hks, hkl, hR⟩ := hrel
    obtain ⟨av, cv, rfl, hc1, hc2⟩ := hR.out.ow.slice
    by_cases hlt : k < n
    · obtain ⟨b1, o1, rfl, k0⟩ := (hx'.out.below hR.out.st.b (Nat.le_refl _)).at k hlt
      have hrd := round_any (nth xs k) 3 wr (by decide) (by decide)
      have h3 := roundI3 (nth xs k)
      have hsn := snoc3 (xs := xs) (k := k) (by have := hxl.out; omega) 3
      obtain ⟨j, hj, hj3⟩ : ∃ j : Nat, roundI (nth xs k) 3 = (j : Int) ∧ j < 3 := by
        rcases h3 with h3 | h3 | h3
        · exact ⟨0, h3, by decide⟩
        · exact ⟨1, h3, by decide⟩
        · exact ⟨2, h3, by decide⟩
      rw [hj] at hrd hsn
      have hrd' := Lib.hid hrd
      have hsn' := Lib.hid hsn
      clear hrd hsn h3 hj
      generalize nth xs k = x at *
      have hj0 : j = 0 ∨ j = 1 ∨ j = 2 := by omega
      have q0 : wr.cell? ⟨w1.heap.size, j, none⟩ = some (.string (nmK (j : Int))) := by
        rw [cell_p hR.out.nm j]
        rcases hj0 with rfl | rfl | rfl <;> rfl
      have hap := app_any w.heap.size p { tabK ks with X := rowC (w1.heap.size + 1) (.slice av ks.length cv) } (nmK (j : Int)) wr hR.out.st.t ((tabK_ok ks).sm.X _) (hR.out.st.env hE'.out) (nmK_size _)
      unfold IdPost at hap
      rw [makeD_X, ← tabK_snoc] at hap
      dsimp only at hap
      have hag := argK_snoc ks (j : Int)
      generalize (makeD (tabK ks) 12 (nmK (j : Int)) noRat []).1.1 = ix at *
      have hap' := Lib.hid hap
      have hag' := Lib.hid hag
      clear hap hag
      go_wp2_with fail
      refine hrd'.out.mono ?_; rintro e w' ⟨rfl, rfl⟩
      clear hrd'
      go_wp2_with fail
      refine hap'.out.mono ?_; rintro e w3 ⟨rfl, t3, s3⟩
      have O3 := Lib.hid (hR.out.ow.tstep hR.out.st (fun _ h => .inr h) s3)
      have C3 := Lib.hid ((hR.out.st.t.stay s3 ⟨_, _, hR.out.cn⟩ (by decide) (by decide) (by decide)).trans hR.out.cn)
      have T3 := Lib.hid t3
      have S3 := Lib.hid s3
      clear t3 s3 hap'
      go_wp2_with (at_builtin; refine wpList_append_C rfl (.tmp 46) (.tmp 53) rfl Tryz.underlying33 hi0 hz0 hz1 hz2 rfl (by decide) rfl rfl (O3.out.alloc _) (Src.one (b := w3.heap.size) (news := [.int .i64 ix]) rfl ?c1) ?c2 ?c3 ?c4 ?c5 ?_)
      case c1 => intro j u hu; rw [World.cell?_alloc_new]; simpa using hu
      case c2 => intro u hu; simp at hu; subst hu; rfl
      case c3 => have := hkl.out; unfold maxLen; omega
      case c4 => have := hkl.out; omega
      case c5 => have := T3.out.bp; have := T3.out.plt; simp; omega
      intro v' w5 ho hg hl2
      have hg' := grown_alloc hg
      have R5 := Lib.hid (SrtR.next hR.out T3.out S3.out hg' (hl2.imp id (fun hh k hk => Nat.le_of_succ_le (by simpa using hh k hk))) (by rw [hag'.out, List.map_append]; exact ho) j hj3 rfl)
      have hcne : some (w1.heap.size + 1) ≠ Value.ownBlock (.slice av ks.length cv) := fun e => by
        obtain ⟨cs, f, hc⟩ := O3.out.ty _ e.symm
        rw [C3.out] at hc
        injection hc with hc
        injection hc with _ hc _
        exact absurd hc (by decide)
      have C5 := (hg'.block _ (Array.getElem?_eq_some_iff.1 C3.out).1 hcne).trans C3.out
      have k5 : w5.cell? ⟨w1.heap.size + 1, j, none⟩ = some (.int .i64 (cntK ks (j : Int))) := by
        rw [cell_p C5 j]
        rcases hj0 with rfl | rfl | rfl <;> rfl
      have f5 : w5.frozen? ⟨w1.heap.size + 1, j, none⟩ = false := frz_p C5 j
      have hcle := cntK_le ks (j : Int)
      rw [hkl.out] at hcle
      clear ho hg hl2 hg' hcne C5 O3 C3 T3 S3 hR
      go_wp2
      go_roundw
      case rel => exact ⟨k + 1, ks ++ [(j : Int)], by omega, by go_num, Lib.hid (by rw [hsn'.out, hks.out]), Lib.hid (by rw [List.length_append, hkl.out]; rfl), R5.out⟩
      case measure => simp [intOf]; omega
    · obtain rfl : k = n := by omega
      have hall : xs.take k = xs := List.take_of_length_le (by have := hxl.out; omega)
      have hks' := hks.out
      rw [hall] at hks'
      have hk3 : ∀ x ∈ ks, x = 0 ∨ x = 1 ∨ x = 2 := fun x hx => by
        rw [hks'] at hx
        obtain ⟨y, _, rfl⟩ := List.mem_map.1 hx
        exact roundI3 y
      obtain ⟨h5, h6⟩ := roundI_bd op 12 (by decide)
      obtain ⟨ro, hro⟩ := Int.eq_ofNat_of_zero_le h5
      have hro1 : ro < 12 := by omega
      have hrd := round_any op 12 (wr.alloc (.cells #[.int .i64 1, .int .i64 3, .int .i64 4, .int .i64 6, .int .i64 8, .int .i64 9, .int .i64 10, .int .i64 13, .int .i64 14, .int .i64 17, .int .i64 7, .int .i64 20] 3)) (by decide) (by decide)
      rw [hro] at hrd
      have hrd' := Lib.hid hrd
      have hk3' := Lib.hid hk3
      have hks2 := Lib.hid hks'
      clear hrd h5 h6 hro hks hall hks' hk3
      have bO : Below wr.heap.size wr (wr.alloc (.cells #[.int .i64 1, .int .i64 3, .int .i64 4, .int .i64 6, .int .i64 8, .int .i64 9, .int .i64 10, .int .i64 13, .int .i64 14, .int .i64 17, .int .i64 7, .int .i64 20] 3)) := (Below.refl _ _).alloc (Nat.le_refl _) _
      have R4 := Lib.hid (hR.out.all bO)
      have X4 := Lib.hid (hx'.out.below (hR.out.st.b.trans (bO.mono hR.out.st.b.size)) (Nat.le_refl _))
      have OP := opsL_at wr ro hro1
      have ho := Lib.hid (opsL_mem ro hro1)
      generalize nth opsL ro = o at *
      clear bO hR
      go_wp2_with fail
      refine hrd'.out.mono ?_; rintro e w' ⟨rfl, rfl⟩
      clear hrd'
      go_upto_region 18 with fail
      generalize (wr.alloc (.cells #[.int .i64 1, .int .i64 3, .int .i64 4, .int .i64 6, .int .i64 8, .int .i64 9, .int .i64 10, .int .i64 13, .int .i64 14, .int .i64 17, .int .i64 7, .int .i64 20] 3)) = w4 at *
      have q0 : w4.cell? ⟨w1.heap.size + 1, 0, none⟩ = some (.int .i64 (cntK ks 0)) := cell_p R4.out.cn 0
      have q1 : w4.cell? ⟨w1.heap.size + 1, 1, none⟩ = some (.int .i64 (cntK ks 1)) := cell_p R4.out.cn 1
      have q2 : w4.cell? ⟨w1.heap.size + 1, 2, none⟩ = some (.int .i64 (cntK ks 2)) := cell_p R4.out.cn 2
      go_cut [15] from 66 to 81 (fun v15 wc => v15 = .bool (oneB ks) ∧ wc = w4)
      case first =>
        by_cases e0 : (cntK ks 0 : Int) = k
        · have h1 : oneB ks = true := by unfold oneB; rw [hkl.out]; simp; omega
          go_wp2
          go_meet
          case rel => exact ⟨congrArg Value.bool (by rw [h1] <;> first | rfl | (simp; omega)), rfl⟩
        · by_cases e1 : (cntK ks 1 : Int) = k
          · have h1 : oneB ks = true := by unfold oneB; rw [hkl.out]; simp; omega
            go_wp2
            go_meet
            case rel => exact ⟨congrArg Value.bool (by rw [h1] <;> first | rfl | (simp; omega)), rfl⟩
          · by_cases e2 : (cntK ks 2 : Int) = k
            · have h1 : oneB ks = true := by unfold oneB; rw [hkl.out]; simp; omega
              go_wp2
              go_meet
              case rel => exact ⟨congrArg Value.bool (by rw [h1] <;> first | rfl | (simp; omega)), rfl⟩
            · have h1 : oneB ks = false := by unfold oneB; rw [hkl.out]; simp; omega
              go_wp2
              go_meet
              case rel => exact ⟨congrArg Value.bool (by rw [h1] <;> first | rfl | (simp; omega)), rfl⟩
      case rest =>
        obtain ⟨rfl, rfl⟩ := hcut
        obtain ⟨w5, rfl⟩ : ∃ w5, w5 = wc := ⟨_, rfl⟩
        go_upto_block 2 with fail
        go_cut [16, 17] from 82 to 170 (fun v16 v17 wx => v16 = .bool (goodS ks o).1 ∧ v17 = .int .i64 (goodS ks o).2 ∧ Hid (Below w5.heap.size w5 wx))
        case first =>
          have ho' : o = 1 ∨ o = 3 ∨ o = 4 ∨ o = 6 ∨ o = 8 ∨ o = 9 ∨ o = 10 ∨ o = 13 ∨ o = 14 ∨ o = 17 ∨ o = 7 ∨ o = 20 := by have := ho.out; simpa [opsL] using this
          clear ho OP R4
          rcases ho' with rfl | rfl | rfl | rfl | rfl | rfl | rfl | rfl | rfl | rfl | rfl | rfl
          · by_cases h0 : (k : Int) = 0
            all_goals
              go_wp2
              go_meet
              case rel => exact ⟨congrArg Value.bool (Bool.eq_iff_iff.2 (by simp [goodS, hkl.out] <;> omega)), by simp [goodS], Below.refl _ _⟩
          · by_cases h0 : (k : Int) = 1
            · by_cases h1 : (cntK ks 0 : Int) = 1
              all_goals
                go_wp2
                go_meet
                case rel => exact ⟨congrArg Value.bool (Bool.eq_iff_iff.2 (by simp [goodS, hkl.out] <;> omega)), by simp [goodS], Below.refl _ _⟩
            · go_wp2
              go_meet
              case rel => exact ⟨congrArg Value.bool (Bool.eq_iff_iff.2 (by simp [goodS, hkl.out] <;> omega)), by simp [goodS], Below.refl _ _⟩
          · by_cases h0 : (2 : Int) ≤ k
            · by_cases h1 : (cntK ks 0 : Int) = k
              all_goals
                go_wp2
                go_meet
                case rel => exact ⟨congrArg Value.bool (Bool.eq_iff_iff.2 (by simp [goodS, hkl.out] <;> omega)), by simp [goodS], Below.refl _ _⟩
            · go_wp2
              go_meet
              case rel => exact ⟨congrArg Value.bool (Bool.eq_iff_iff.2 (by simp [goodS, hkl.out] <;> omega)), by simp [goodS], Below.refl _ _⟩
          · by_cases h0 : (2 : Int) ≤ k
            · by_cases h1 : (cntK ks 0 : Int) = k
              all_goals
                go_wp2
                go_meet
                case rel => exact ⟨congrArg Value.bool (Bool.eq_iff_iff.2 (by simp [goodS, hkl.out] <;> omega)), by simp [goodS], Below.refl _ _⟩
            · go_wp2
              go_meet
              case rel => exact ⟨congrArg Value.bool (Bool.eq_iff_iff.2 (by simp [goodS, hkl.out] <;> omega)), by simp [goodS], Below.refl _ _⟩
          · by_cases h0 : (2 : Int) ≤ k
            all_goals
              go_wp2
              go_meet
              case rel => exact ⟨congrArg Value.bool (Bool.eq_iff_iff.2 (by simp [goodS, oneB, hkl.out] <;> omega)), by simp [goodS], Below.refl _ _⟩
          · by_cases h0 : (2 : Int) ≤ k
            all_goals
              go_wp2
              go_meet
              case rel => exact ⟨congrArg Value.bool (Bool.eq_iff_iff.2 (by simp [goodS, oneB, hkl.out] <;> omega)), by simp [goodS], Below.refl _ _⟩
          · by_cases h0 : (k : Int) = 3
            · obtain rfl : k = 3 := by omega
              clear h0
              obtain ⟨b1, o1, rfl, _, hc⟩ := X4.out.cells (by omega)
              have y0 : w5.cell? ⟨b1, o1, none⟩ = some (.int .i64 (nth xs 0)) := hc 0 (by omega)
              have y1 : w5.cell? ⟨b1, o1 + 1, none⟩ = some (.int .i64 (nth xs 1)) := hc 1 (by omega)
              have y2 : w5.cell? ⟨b1, o1 + 2, none⟩ = some (.int .i64 (nth xs 2)) := hc 2 (by omega)
              have n0 := nth_round hks2.out (j := 0) (by have := hkl.out; omega)
              have n1 := nth_round hks2.out (j := 1) (by have := hkl.out; omega)
              have n2 := nth_round hks2.out (j := 2) (by have := hkl.out; omega)
              have Rd0 := fun v => round_any (nth xs 0) 3 v (by decide) (by decide)
              have Rd1 := fun v => round_any (nth xs 1) 3 v (by decide) (by decide)
              have Rd2 := fun v => round_any (nth xs 2) 3 v (by decide) (by decide)
              have z0 := roundI3 (nth xs 0)
              have z1 := roundI3 (nth xs 1)
              have z2 := roundI3 (nth xs 2)
              clear hc
              generalize nth xs 0 = x0 at *
              generalize nth xs 1 = x1 at *
              generalize nth xs 2 = x2 at *
              generalize roundI x0 3 = s0 at *
              generalize roundI x1 3 = s1 at *
              generalize roundI x2 3 = s2 at *
              have n0' := Lib.hid n0
              have n1' := Lib.hid n1
              have n2' := Lib.hid n2
              have Rd0' := Lib.hid Rd0
              have Rd1' := Lib.hid Rd1
              have Rd2' := Lib.hid Rd2
              clear n0 n1 n2 Rd0 Rd1 Rd2 X4
              rcases z0 with rfl | rfl | rfl
              case inl =>
                clear z1 z2
                by_cases hs : s1 = s2
                · subst hs
                  go_wp2_with fail
                  refine wp_region_tt (S := fun W => Below w5.heap.size w5 W) 20 (by kernel_rfl) (by kernel_rfl) (keep_drew w5) (fun _ => ?_)
                  refine tt_take (i := 0) (v := _) (by rfl) (by decide +kernel) (by exact fun _ _ _ h => h) (Or.inl ⟨by rfl, by (intro W hSw; (try dsimp only at hSw); go_simp <;> with_reducible rfl)⟩) (by assumption) ?_
                  (try simp only [Act.put, List.setIfInBounds_toArray, List.set_cons_zero, List.set_cons_succ])
                  refine tt_take (i := 1) (v := _) (by rfl) (by decide +kernel) (by exact fun _ _ _ h => h) (Or.inl ⟨by rfl, by (intro W hSw; (try dsimp only at hSw); go_simp <;> with_reducible rfl)⟩) (by assumption) ?_
                  (try simp only [Act.put, List.setIfInBounds_toArray, List.set_cons_zero, List.set_cons_succ])
                  refine tt_take (i := 2) (v := _) (by rfl) (by decide +kernel) (by exact fun _ _ _ h => h) (Or.inl ⟨by rfl, by (intro W hSw; (try dsimp only at hSw); go_simp <;> with_reducible rfl)⟩) (by assumption) ?_
                  (try simp only [Act.put, List.setIfInBounds_toArray, List.set_cons_zero, List.set_cons_succ])
                  refine tt_take (i := 3) (v := _) (by rfl) (by decide +kernel) (by exact fun _ _ _ h => h) (by first | exact Or.inl ⟨by rfl, by (intro W hSw; (try dsimp only at hSw); go_simp <;> with_reducible rfl)⟩ | exact Or.inr ⟨by rfl, rfl⟩) (by assumption) ?_
                  (try simp only [Act.put, List.setIfInBounds_toArray, List.set_cons_zero, List.set_cons_succ])
                  refine tt_take (i := 4) (v := _) (by rfl) (by decide +kernel) (by exact fun _ _ _ h => h) (by first | exact Or.inl ⟨by rfl, by (intro W hSw; (try dsimp only at hSw); go_simp <;> with_reducible rfl)⟩ | exact Or.inr ⟨by rfl, rfl⟩) (by assumption) ?_
                  (try simp only [Act.put, List.setIfInBounds_toArray, List.set_cons_zero, List.set_cons_succ])
                  refine tt_take (i := 5) (v := _) (by rfl) (by decide +kernel) (by exact fun _ _ _ h => h) (by first | exact Or.inl ⟨by rfl, by (intro W hSw; have hq := keep_cell hSw y0; go_simp <;> with_reducible rfl)⟩ | exact Or.inr ⟨by rfl, rfl⟩) (by assumption) ?_
                  (try simp only [Act.put, List.setIfInBounds_toArray, List.set_cons_zero, List.set_cons_succ])
                  refine tt_ready (rs := [6]) (by decide +kernel) (allT_cons (by rfl) (fun K hK => ?_) allT_nil)
                  go_simp
                  go_at_call 19
                  refine (Rd0'.out _).mono ?_
                  rintro e w' ⟨rfl, rfl⟩
                  dsimp only
                  refine hK.out _ _ (by (assumption)) (fun hHeld2 => ?_)
                  clear hK K
                  (try simp only [Act.put, List.setIfInBounds_toArray, List.set_cons_zero, List.set_cons_succ])
                  refine tt_take (i := 7) (v := _) (by rfl) (by decide +kernel) (by exact fun _ _ _ h => h) (by first | exact Or.inl ⟨by rfl, by (intro W hSw; (try dsimp only at hSw); go_simp <;> with_reducible rfl)⟩ | exact Or.inr ⟨by rfl, rfl⟩) (by assumption) ?_
                  (try simp only [Act.put, List.setIfInBounds_toArray, List.set_cons_zero, List.set_cons_succ])
                  refine tt_take (i := 8) (v := _) (by rfl) (by decide +kernel) (by exact fun _ _ _ h => h) (Or.inl ⟨by rfl, by (intro W hSw; (try dsimp only at hSw); go_simp <;> with_reducible rfl)⟩) (by assumption) ?_
                  (try simp only [Act.put, List.setIfInBounds_toArray, List.set_cons_zero, List.set_cons_succ])
                  refine tt_take (i := 9) (v := _) (by rfl) (by decide +kernel) (by exact fun _ _ _ h => h) (Or.inl ⟨by rfl, by (intro W hSw; (try dsimp only at hSw); go_simp <;> with_reducible rfl)⟩) (by assumption) ?_
                  (try simp only [Act.put, List.setIfInBounds_toArray, List.set_cons_zero, List.set_cons_succ])
                  refine tt_take (i := 10) (v := _) (by rfl) (by decide +kernel) (by exact fun _ _ _ h => h) (by first | exact Or.inl ⟨by rfl, by (intro W hSw; (try dsimp only at hSw); go_simp <;> with_reducible rfl)⟩ | exact Or.inr ⟨by rfl, rfl⟩) (by assumption) ?_
                  (try simp only [Act.put, List.setIfInBounds_toArray, List.set_cons_zero, List.set_cons_succ])
                  refine tt_take (i := 11) (v := _) (by rfl) (by decide +kernel) (by exact fun _ _ _ h => h) (by first | exact Or.inl ⟨by rfl, by (intro W hSw; (try dsimp only at hSw); go_simp <;> with_reducible rfl)⟩ | exact Or.inr ⟨by rfl, rfl⟩) (by assumption) ?_
                  (try simp only [Act.put, List.setIfInBounds_toArray, List.set_cons_zero, List.set_cons_succ])
                  refine tt_take (i := 12) (v := _) (by rfl) (by decide +kernel) (by exact fun _ _ _ h => h) (by first | exact Or.inl ⟨by rfl, by (intro W hSw; have hq := keep_cell hSw y1; go_simp <;> with_reducible rfl)⟩ | exact Or.inr ⟨by rfl, rfl⟩) (by assumption) ?_
                  (try simp only [Act.put, List.setIfInBounds_toArray, List.set_cons_zero, List.set_cons_succ])
                  refine tt_take (i := 14) (v := _) (by rfl) (by decide +kernel) (by exact fun _ _ _ h => h) (by first | exact Or.inl ⟨by rfl, by (intro W hSw; (try dsimp only at hSw); go_simp <;> with_reducible rfl)⟩ | exact Or.inr ⟨by rfl, rfl⟩) (by assumption) ?_
                  (try simp only [Act.put, List.setIfInBounds_toArray, List.set_cons_zero, List.set_cons_succ])
                  refine tt_take (i := 15) (v := _) (by rfl) (by decide +kernel) (by exact fun _ _ _ h => h) (by first | exact Or.inl ⟨by rfl, by (intro W hSw; (try dsimp only at hSw); go_simp <;> with_reducible rfl)⟩ | exact Or.inr ⟨by rfl, rfl⟩) (by assumption) ?_
                  (try simp only [Act.put, List.setIfInBounds_toArray, List.set_cons_zero, List.set_cons_succ])
                  refine tt_take (i := 16) (v := _) (by rfl) (by decide +kernel) (by exact fun _ _ _ h => h) (by first | exact Or.inl ⟨by rfl, by (intro W hSw; have hq := keep_cell hSw y2; go_simp <;> with_reducible rfl)⟩ | exact Or.inr ⟨by rfl, rfl⟩) (by assumption) ?_
                  (try simp only [Act.put, List.setIfInBounds_toArray, List.set_cons_zero, List.set_cons_succ])
                  refine tt_ready (rs := [13]) (by decide +kernel) (allT_cons (by rfl) (fun K hK => ?_) allT_nil)
                  go_simp
                  go_at_call 19
                  refine (Rd1'.out _).mono ?_
                  rintro e w' ⟨rfl, rfl⟩
                  dsimp only
                  refine hK.out _ _ (by (assumption)) (fun hHeld3 => ?_)
                  clear hK K
                  (try simp only [Act.put, List.setIfInBounds_toArray, List.set_cons_zero, List.set_cons_succ])
                  refine tt_ready (rs := [17]) (by decide +kernel) (allT_cons (by rfl) (fun K hK => ?_) allT_nil)
                  go_simp
                  go_at_call 19
                  refine (Rd2'.out _).mono ?_
                  rintro e w' ⟨rfl, rfl⟩
                  dsimp only
                  refine hK.out _ _ (by (assumption)) (fun hHeld4 => ?_)
                  clear hK K
                  (try simp only [Act.put, List.setIfInBounds_toArray, List.set_cons_zero, List.set_cons_succ])
                  refine tt_take (i := 18) (v := _) (by rfl) (by decide +kernel) (by exact fun _ _ _ h => h) (by first | exact Or.inl ⟨by rfl, by (intro W hSw; (try dsimp only at hSw); go_simp <;> with_reducible rfl)⟩ | exact Or.inr ⟨by rfl, rfl⟩) (by assumption) ?_
                  (try simp only [Act.put, List.setIfInBounds_toArray, List.set_cons_zero, List.set_cons_succ])
                  refine tt_take (i := 19) (v := _) (by rfl) (by decide +kernel) (by exact fun _ _ _ h => h) (Or.inl ⟨by rfl, by (intro W hSw; (try dsimp only at hSw); go_simp <;> with_reducible rfl)⟩) (by assumption) ?_
                  (try simp only [Act.put, List.setIfInBounds_toArray, List.set_cons_zero, List.set_cons_succ])
                  refine tt_tail (by decide +kernel) ?_
                  simp only [List.drop_succ_cons, List.drop_zero]
                  go_wp2_with fail
                  refine (Rd1'.out _).mono ?_; rintro e w' ⟨rfl, rfl⟩
                  go_wp2
                  go_meet
                  case rel => exact ⟨congrArg Value.bool (by simp [goodS, hkl.out, n0'.out, n1'.out, n2'.out] <;> omega), congrArg (Value.int .i64) (by simp [goodS, hkl.out, n0'.out, n1'.out, n2'.out] <;> omega), Lib.hid (by assumption)⟩
                · have hsb : (s1 == s2) = false := by simp; omega
                  go_wp2_with fail
                  refine wp_region_tt (S := fun W => Below w5.heap.size w5 W) 20 (by kernel_rfl) (by kernel_rfl) (keep_drew w5) (fun _ => ?_)
                  refine tt_take (i := 0) (v := _) (by rfl) (by decide +kernel) (by exact fun _ _ _ h => h) (Or.inl ⟨by rfl, by (intro W hSw; (try dsimp only at hSw); go_simp <;> with_reducible rfl)⟩) (by assumption) ?_
                  (try simp only [Act.put, List.setIfInBounds_toArray, List.set_cons_zero, List.set_cons_succ])
                  refine tt_take (i := 1) (v := _) (by rfl) (by decide +kernel) (by exact fun _ _ _ h => h) (Or.inl ⟨by rfl, by (intro W hSw; (try dsimp only at hSw); go_simp <;> with_reducible rfl)⟩) (by assumption) ?_
                  (try simp only [Act.put, List.setIfInBounds_toArray, List.set_cons_zero, List.set_cons_succ])
                  refine tt_take (i := 2) (v := _) (by rfl) (by decide +kernel) (by exact fun _ _ _ h => h) (Or.inl ⟨by rfl, by (intro W hSw; (try dsimp only at hSw); go_simp <;> with_reducible rfl)⟩) (by assumption) ?_
                  (try simp only [Act.put, List.setIfInBounds_toArray, List.set_cons_zero, List.set_cons_succ])
                  refine tt_take (i := 3) (v := _) (by rfl) (by decide +kernel) (by exact fun _ _ _ h => h) (by first | exact Or.inl ⟨by rfl, by (intro W hSw; (try dsimp only at hSw); go_simp <;> with_reducible rfl)⟩ | exact Or.inr ⟨by rfl, rfl⟩) (by assumption) ?_
                  (try simp only [Act.put, List.setIfInBounds_toArray, List.set_cons_zero, List.set_cons_succ])
                  refine tt_take (i := 4) (v := _) (by rfl) (by decide +kernel) (by exact fun _ _ _ h => h) (by first | exact Or.inl ⟨by rfl, by (intro W hSw; (try dsimp only at hSw); go_simp <;> with_reducible rfl)⟩ | exact Or.inr ⟨by rfl, rfl⟩) (by assumption) ?_
                  (try simp only [Act.put, List.setIfInBounds_toArray, List.set_cons_zero, List.set_cons_succ])
                  refine tt_take (i := 5) (v := _) (by rfl) (by decide +kernel) (by exact fun _ _ _ h => h) (by first | exact Or.inl ⟨by rfl, by (intro W hSw; have hq := keep_cell hSw y0; go_simp <;> with_reducible rfl)⟩ | exact Or.inr ⟨by rfl, rfl⟩) (by assumption) ?_
                  (try simp only [Act.put, List.setIfInBounds_toArray, List.set_cons_zero, List.set_cons_succ])
                  refine tt_ready (rs := [6]) (by decide +kernel) (allT_cons (by rfl) (fun K hK => ?_) allT_nil)
                  go_simp
                  go_at_call 19
                  refine (Rd0'.out _).mono ?_
                  rintro e w' ⟨rfl, rfl⟩
                  dsimp only
                  refine hK.out _ _ (by (assumption)) (fun hHeld2 => ?_)
                  clear hK K
                  (try simp only [Act.put, List.setIfInBounds_toArray, List.set_cons_zero, List.set_cons_succ])
                  refine tt_take (i := 7) (v := _) (by rfl) (by decide +kernel) (by exact fun _ _ _ h => h) (by first | exact Or.inl ⟨by rfl, by (intro W hSw; (try dsimp only at hSw); go_simp <;> with_reducible rfl)⟩ | exact Or.inr ⟨by rfl, rfl⟩) (by assumption) ?_
                  (try simp only [Act.put, List.setIfInBounds_toArray, List.set_cons_zero, List.set_cons_succ])
                  refine tt_take (i := 8) (v := _) (by rfl) (by decide +kernel) (by exact fun _ _ _ h => h) (Or.inl ⟨by rfl, by (intro W hSw; (try dsimp only at hSw); go_simp <;> with_reducible rfl)⟩) (by assumption) ?_
                  (try simp only [Act.put, List.setIfInBounds_toArray, List.set_cons_zero, List.set_cons_succ])
                  refine tt_take (i := 9) (v := _) (by rfl) (by decide +kernel) (by exact fun _ _ _ h => h) (Or.inl ⟨by rfl, by (intro W hSw; (try dsimp only at hSw); go_simp <;> with_reducible rfl)⟩) (by assumption) ?_
                  (try simp only [Act.put, List.setIfInBounds_toArray, List.set_cons_zero, List.set_cons_succ])
                  refine tt_take (i := 10) (v := _) (by rfl) (by decide +kernel) (by exact fun _ _ _ h => h) (by first | exact Or.inl ⟨by rfl, by (intro W hSw; (try dsimp only at hSw); go_simp <;> with_reducible rfl)⟩ | exact Or.inr ⟨by rfl, rfl⟩) (by assumption) ?_
                  (try simp only [Act.put, List.setIfInBounds_toArray, List.set_cons_zero, List.set_cons_succ])
                  refine tt_take (i := 11) (v := _) (by rfl) (by decide +kernel) (by exact fun _ _ _ h => h) (by first | exact Or.inl ⟨by rfl, by (intro W hSw; (try dsimp only at hSw); go_simp <;> with_reducible rfl)⟩ | exact Or.inr ⟨by rfl, rfl⟩) (by assumption) ?_
                  (try simp only [Act.put, List.setIfInBounds_toArray, List.set_cons_zero, List.set_cons_succ])
                  refine tt_take (i := 12) (v := _) (by rfl) (by decide +kernel) (by exact fun _ _ _ h => h) (by first | exact Or.inl ⟨by rfl, by (intro W hSw; have hq := keep_cell hSw y1; go_simp <;> with_reducible rfl)⟩ | exact Or.inr ⟨by rfl, rfl⟩) (by assumption) ?_
                  (try simp only [Act.put, List.setIfInBounds_toArray, List.set_cons_zero, List.set_cons_succ])
                  refine tt_take (i := 14) (v := _) (by rfl) (by decide +kernel) (by exact fun _ _ _ h => h) (by first | exact Or.inl ⟨by rfl, by (intro W hSw; (try dsimp only at hSw); go_simp <;> with_reducible rfl)⟩ | exact Or.inr ⟨by rfl, rfl⟩) (by assumption) ?_
                  (try simp only [Act.put, List.setIfInBounds_toArray, List.set_cons_zero, List.set_cons_succ])
                  refine tt_take (i := 15) (v := _) (by rfl) (by decide +kernel) (by exact fun _ _ _ h => h) (by first | exact Or.inl ⟨by rfl, by (intro W hSw; (try dsimp only at hSw); go_simp <;> with_reducible rfl)⟩ | exact Or.inr ⟨by rfl, rfl⟩) (by assumption) ?_
                  (try simp only [Act.put, List.setIfInBounds_toArray, List.set_cons_zero, List.set_cons_succ])
                  refine tt_take (i := 16) (v := _) (by rfl) (by decide +kernel) (by exact fun _ _ _ h => h) (by first | exact Or.inl ⟨by rfl, by (intro W hSw; have hq := keep_cell hSw y2; go_simp <;> with_reducible rfl)⟩ | exact Or.inr ⟨by rfl, rfl⟩) (by assumption) ?_
                  (try simp only [Act.put, List.setIfInBounds_toArray, List.set_cons_zero, List.set_cons_succ])
                  refine tt_ready (rs := [13]) (by decide +kernel) (allT_cons (by rfl) (fun K hK => ?_) allT_nil)
                  go_simp
                  go_at_call 19
                  refine (Rd1'.out _).mono ?_
                  rintro e w' ⟨rfl, rfl⟩
                  dsimp only
                  refine hK.out _ _ (by (assumption)) (fun hHeld3 => ?_)
                  clear hK K
                  (try simp only [Act.put, List.setIfInBounds_toArray, List.set_cons_zero, List.set_cons_succ])
                  refine tt_ready (rs := [17]) (by decide +kernel) (allT_cons (by rfl) (fun K hK => ?_) allT_nil)
                  go_simp
                  go_at_call 19
                  refine (Rd2'.out _).mono ?_
                  rintro e w' ⟨rfl, rfl⟩
                  dsimp only
                  refine hK.out _ _ (by (assumption)) (fun hHeld4 => ?_)
                  clear hK K
                  (try simp only [Act.put, List.setIfInBounds_toArray, List.set_cons_zero, List.set_cons_succ])
                  refine tt_take (i := 18) (v := _) (by rfl) (by decide +kernel) (by exact fun _ _ _ h => h) (by first | exact Or.inl ⟨by rfl, by (intro W hSw; (try dsimp only at hSw); go_simp <;> with_reducible rfl)⟩ | exact Or.inr ⟨by rfl, rfl⟩) (by assumption) ?_
                  (try simp only [Act.put, List.setIfInBounds_toArray, List.set_cons_zero, List.set_cons_succ])
                  refine tt_take (i := 19) (v := _) (by rfl) (by decide +kernel) (by exact fun _ _ _ h => h) (Or.inl ⟨by rfl, by (intro W hSw; (try dsimp only at hSw); go_simp <;> with_reducible rfl)⟩) (by assumption) ?_
                  (try simp only [Act.put, List.setIfInBounds_toArray, List.set_cons_zero, List.set_cons_succ])
                  refine tt_tail (by decide +kernel) ?_
                  simp only [List.drop_succ_cons, List.drop_zero]
                  go_wp2
                  go_meet
                  case rel => exact ⟨congrArg Value.bool (by simp [goodS, hkl.out, n0'.out, n1'.out, n2'.out] <;> omega), congrArg (Value.int .i64) (by simp [goodS, hkl.out, n0'.out, n1'.out, n2'.out] <;> omega), Lib.hid (by assumption)⟩
              all_goals
                have c10 : ((1 : Int) == 0) = false := by decide
                have c11 : ((2 : Int) == 0) = false := by decide
                go_wp2
                go_quiet ((go_at_call 19; first | exact (Rd0'.out _).mono fun _ _ h => ⟨h.1, _, h.2.symm⟩ | exact (Rd1'.out _).mono fun _ _ h => ⟨h.1, _, h.2.symm⟩ | exact (Rd2'.out _).mono fun _ _ h => ⟨h.1, _, h.2.symm⟩))
                go_wp2
                go_meet
                case rel => exact ⟨congrArg Value.bool (by simp [goodS, n0'.out]), congrArg (Value.int .i64) (by simp [goodS, n0'.out]), (Below.refl _ _).drewN _⟩
            · have h0d : ((k : Int) == 3) = false := by simp; omega
              go_wp2
              go_quiet (fail)
              go_wp2
              go_meet
              case rel => exact ⟨congrArg Value.bool (Bool.eq_iff_iff.2 (by simp [goodS, hkl.out] <;> omega)), congrArg (Value.int .i64) (by simp [goodS, hkl.out] <;> omega), (Below.refl _ _).drewN _⟩
          · by_cases h0 : (2 : Int) ≤ k
            · by_cases h1 : (cntK ks 1 : Int) = k
              all_goals
                go_wp2
                go_meet
                case rel => exact ⟨congrArg Value.bool (Bool.eq_iff_iff.2 (by simp [goodS, hkl.out] <;> omega)), by simp [goodS], Below.refl _ _⟩
            · go_wp2
              go_meet
              case rel => exact ⟨congrArg Value.bool (Bool.eq_iff_iff.2 (by simp [goodS, hkl.out] <;> omega)), by simp [goodS], Below.refl _ _⟩
          · by_cases h0 : (1 : Int) ≤ k
            · by_cases h1 : (cntK ks 1 : Int) = k
              all_goals
                go_wp2
                go_meet
                case rel => exact ⟨congrArg Value.bool (Bool.eq_iff_iff.2 (by simp [goodS, hkl.out] <;> omega)), by simp [goodS], Below.refl _ _⟩
            · go_wp2
              go_meet
              case rel => exact ⟨congrArg Value.bool (Bool.eq_iff_iff.2 (by simp [goodS, hkl.out] <;> omega)), by simp [goodS], Below.refl _ _⟩
          · by_cases h0 : (2 : Int) ≤ k
            · by_cases h1 : (cntK ks 1 : Int) = k
              all_goals
                go_wp2
                go_meet
                case rel => exact ⟨congrArg Value.bool (Bool.eq_iff_iff.2 (by simp [goodS, hkl.out] <;> omega)), by simp [goodS], Below.refl _ _⟩
            · go_wp2
              go_meet
              case rel => exact ⟨congrArg Value.bool (Bool.eq_iff_iff.2 (by simp [goodS, hkl.out] <;> omega)), by simp [goodS], Below.refl _ _⟩
          · by_cases h0 : (2 : Int) ≤ k
            · by_cases h1 : (cntK ks 0 : Int) = k
              all_goals
                go_wp2
                go_meet
                case rel => exact ⟨congrArg Value.bool (Bool.eq_iff_iff.2 (by simp [goodS, hkl.out] <;> omega)), by simp [goodS], Below.refl _ _⟩
            · go_wp2
              go_meet
              case rel => exact ⟨congrArg Value.bool (Bool.eq_iff_iff.2 (by simp [goodS, hkl.out] <;> omega)), by simp [goodS], Below.refl _ _⟩
          · by_cases h0 : (2 : Int) ≤ k
            · by_cases h1 : (cntK ks 1 : Int) = k
              all_goals
                go_wp2
                go_meet
                case rel => exact ⟨congrArg Value.bool (Bool.eq_iff_iff.2 (by simp [goodS, hkl.out] <;> omega)), by simp [goodS], Below.refl _ _⟩
            · go_wp2
              go_meet
              case rel => exact ⟨congrArg Value.bool (Bool.eq_iff_iff.2 (by simp [goodS, hkl.out] <;> omega)), by simp [goodS], Below.refl _ _⟩
        case rest =>
          obtain ⟨rfl, rfl, hB⟩ := hcut
          have I5 := Lib.hid (R4.out.st.all hB.out)
          have O5 := Lib.hid (R4.out.ow.same fun j hj => hB.out.block j (R4.out.ow.lt j hj).2)
          have hok : okI o ∧ o ≠ 11 := ops_ok ho.out
          have hlaw := sorts_law (by rw [hkl.out]; exact hn5) hk3'.out ho.out
          have hmk := make_any w.heap.size p { tabK ks with X := rowC (w1.heap.size + 1) (.slice av ks.length cv) } o ⟨#[]⟩ noRat (argK ks) none none av 0 0 cv wc I5.out.t ((tabK_ok ks).sm.X _) (I5.out.env hE'.out) (ownC_args O5.out (fun x hx => by have := argK_bd ks x hx; exact ⟨by omega, by omega⟩) hok.1 hok.2)
          unfold MakePost at hmk
          rw [makeD_X, argK_len] at hmk
          dsimp only at hmk
          have hmk' := Lib.hid hmk
          clear hmk
          generalize makeD (tabK ks) o ⟨#[]⟩ noRat (argK ks) = R at *
          obtain ⟨⟨i1, e1⟩, T1⟩ := R
          dsimp only at hlaw hmk'
          have hlaw' := Lib.hid hlaw
          clear hlaw hok q0 q1 q2 OP X4 hks2 hk3' O5 hB R4
          cases hg : (goodS ks o).1
          case false =>
            have hr := hlaw'.out.2 hg
            simp only [Prod.mk.injEq] at hr
            obtain ⟨rfl, rfl⟩ := hr
            clear hg
            go_wp2_with fail
            refine hmk'.out.mono ?_; rintro e w6 ⟨rfl, t6, s6⟩
            have I6 := Lib.hid (I5.out.step t6 s6)
            have haw := Lib.hid (awake7_any w6 (I6.out.env hE'.out))
            clear t6 s6 hmk'
            go_wp2_with fail
            refine haw.out.mono ?_; rintro e w7 ⟨rfl, b7⟩
            go_wp2
            go_ret
            exact ⟨rfl, I6.out.b.trans (b7.mono I6.out.b.size)⟩
          case true =>
            obtain ⟨hr, hr2⟩ := hlaw'.out.1 hg
            subst hr
            have hr3 := Lib.hid hr2
            generalize (goodS ks o).2 = so at *
            clear hg hr2
            go_wp2_with fail
            refine hmk'.out.mono ?_; rintro e w6 ⟨rfl, t6, s6⟩
            have I6 := Lib.hid (I5.out.step t6 s6)
            have hts := tsort_any w.heap.size p _ i1 w6 I6.out.t
            rw [show sortOf { T1 with X := rowC (w1.heap.size + 1) (.slice av ks.length cv) } i1 = (so, true) from hr3.out] at hts
            have hts' := Lib.hid hts
            have haw := Lib.hid (awake7_any w6 (I6.out.env hE'.out))
            clear t6 s6 hmk' hts
            go_wp2_with fail
            refine hts'.out.mono ?_; rintro e w7 ⟨rfl, rfl⟩
            go_wp2_with fail
            refine haw.out.mono ?_; rintro e w8 ⟨rfl, b7⟩
            go_wp2
            go_ret
            exact ⟨rfl, I6.out.b.trans (b7.mono I6.out.b.size)⟩
end Go.Proofs.YtikmkalfdiiahaaGreatDoor
