/-
  Words for memory, for whatever element: rows of one's own whose capacity may be less than their block ('OwnC') and what append makes of them; blocks that belong to a struct ('ownOf') and steps that touch nothing else ('PStep'); what cells read as ('Rep', 'SlR', 'OwnR'), with the set of blocks that the reading leans on. No program. No condition.
-/
import Derived.Test.YtpkajhmgkmkcgaaDoorV
import Derived.ArgAppend
import Derived.Maps.AppendAt
namespace Go.Proofs.YtpkajhmgkmkcgaaDoor
open Go.RowKit Go.Lib

/-- An own row whose capacity may be less than its block's. -/
def OwnC (w : World) (base : Nat) (e : TypeId) (size : Nat) (v : Value) (n : Nat) (xs : List Value) : Prop :=
  xs.length = n * size ∧
  ((v = .slice none 0 0 ∧ n = 0) ∨
   ∃ g cap cur, v = .slice (some ⟨g, 0, none⟩) n cap ∧ base ≤ g ∧ w.heap[g]? = some (.cells cur e (0, 0)) ∧ n ≤ cap ∧ cap ≤ maxLen ∧ cap * size ≤ cur.size ∧ cur.toList.take (n * size) = xs)
section
variable {w w' : World} {base : Nat} {e : TypeId} {size n : Nat} {v : Value} {xs : List Value}
theorem OwnC.of (h : w.ownsRow base e size v n xs) : OwnC w base e size v n xs := by
  refine ⟨h.1, ?_⟩
  rcases h.2 with hn | ⟨g, cap, cur, h1, h2, h3, h4, h5, h6, h7⟩
  · exact .inl hn
  · exact .inr ⟨g, cap, cur, h1, h2, h3, h4, h5, Nat.le_of_eq h6.symm, h7⟩
theorem OwnC.nil (w : World) (base : Nat) (e : TypeId) (size : Nat) : OwnC w base e size (.slice none 0 0) 0 [] := ⟨by simp, .inl ⟨rfl, rfl⟩⟩
theorem OwnC.slice (h : OwnC w base e size v n xs) : ∃ a c, v = .slice a n c ∧ n ≤ c ∧ c ≤ maxLen := by
  rcases h.2 with ⟨rfl, rfl⟩ | ⟨g, cap, cur, rfl, _, _, h1, h2, _⟩
  · exact ⟨none, 0, rfl, Nat.le_refl _, Nat.zero_le _⟩
  · exact ⟨_, cap, rfl, h1, h2⟩
theorem OwnC.lt (h : OwnC w base e size v n xs) : ∀ k, v.ownBlock = some k → base ≤ k ∧ k < w.heap.size := by
  intro k hk
  rcases h.2 with ⟨rfl, _⟩ | ⟨g, cap, cur, rfl, hb, hg, _⟩
  · simp [Value.ownBlock] at hk
  · simp [Value.ownBlock] at hk
    subst hk
    exact ⟨hb, (Array.getElem?_eq_some_iff.1 hg).1⟩
theorem OwnC.ty (h : OwnC w base e size v n xs) : ∀ k, v.ownBlock = some k → ∃ cs f, w.heap[k]? = some (.cells cs e f) := by
  intro k hk
  rcases h.2 with ⟨rfl, _⟩ | ⟨g, cap, cur, rfl, hb, hg, _⟩
  · simp [Value.ownBlock] at hk
  · simp [Value.ownBlock] at hk
    subst hk
    exact ⟨_, _, hg⟩
theorem OwnC.same (h : OwnC w base e size v n xs) (hb : ∀ k, v.ownBlock = some k → w'.heap[k]? = w.heap[k]?) : OwnC w' base e size v n xs := by
  refine ⟨h.1, ?_⟩
  rcases h.2 with hn | ⟨g, cap, cur, rfl, h1, h2, h3⟩
  · exact .inl hn
  · exact .inr ⟨g, cap, cur, rfl, h1, by rw [hb g rfl]; exact h2, h3⟩
theorem OwnC.alloc (h : OwnC w base e size v n xs) (o : Obj) : OwnC (w.alloc o) base e size v n xs := h.same fun k hk => Below.heap_alloc w o k (h.lt k hk).2
theorem OwnC.cells (h : OwnC w base e size v n xs) {g : Nat} (hg : v.ownBlock = some g) : ∀ j u, xs[j]? = some u → w.cell? ⟨g, j, none⟩ = some u := by
  intro j u hu
  rcases h.2 with ⟨rfl, _⟩ | ⟨g', cap, cur, rfl, _, hgg, _, _, _, htake⟩
  · simp [Value.ownBlock] at hg
  · simp [Value.ownBlock] at hg
    subst hg
    have hj : j < xs.length := (List.getElem?_eq_some_iff.1 hu).1
    rw [← htake] at hu
    rw [List.getElem?_take_of_lt (by have := h.1; omega)] at hu
    simp only [World.cell?, hgg, Option.isSome_none, Bool.false_eq_true, if_false]
    rw [← Array.getElem?_toList]; exact hu
theorem OwnC.form (h : OwnC w base e size v n xs) (hn : 0 < n) : ∃ g cap, v = .slice (some ⟨g, 0, none⟩) n cap ∧ base ≤ g ∧ g < w.heap.size := by
  rcases h.2 with ⟨_, h0⟩ | ⟨g, cap, cur, hv, hb, hg, _⟩
  · omega
  · exact ⟨g, cap, hv, hb, (Array.getElem?_eq_some_iff.1 hg).1⟩
/-- 'v[:k:c]', 'v[:k]' -/
theorem OwnC.cut {a : Option Addr} {c c' k : Nat} (h : OwnC w base e size (.slice a n c) n xs) (hk : k ≤ n) (hc1 : k ≤ c') (hc2 : c' ≤ c) : OwnC w base e size (.slice a k c') k (xs.take (k * size)) := by
  refine ⟨by rw [List.length_take, h.1]; exact Nat.min_eq_left (Nat.mul_le_mul_right _ hk), ?_⟩
  rcases h.2 with ⟨hv, rfl⟩ | ⟨g, cap, cur, hv, h1, h2, h3, h4, h5, h6⟩
  · cases hv
    obtain rfl : k = 0 := by omega
    obtain rfl : c' = 0 := by omega
    exact .inl ⟨rfl, rfl⟩
  · cases hv
    refine .inr ⟨g, c', cur, rfl, h1, h2, hc1, by omega, Nat.le_trans (Nat.mul_le_mul_right _ hc2) h5, ?_⟩
    rw [← h6, List.take_take, Nat.min_eq_left (Nat.mul_le_mul_right _ hk)]
/-- what is appended: cells at an address, or nothing -/
def Src (w : World) (size : Nat) (A : Option Addr) (m : Nat) (news : List Value) : Prop :=
  news.length = m * size ∧ (0 < m → ∃ ad, A = some ad ∧ ∀ j u, news[j]? = some u → w.cell? (ad.add j) = some u)
theorem Src.nothing {size : Nat} {A : Option Addr} : Src w size A 0 [] := ⟨by simp, fun h => absurd h (by omega)⟩
theorem Src.one {size b : Nat} {news : List Value} (hl : news.length = size) (h : ∀ j u, news[j]? = some u → w.cell? ⟨b, j, none⟩ = some u) : Src w size (some ⟨b, 0, none⟩) 1 news :=
  ⟨by omega, fun _ => ⟨_, rfl, fun j u hu => by rw [Addr.add_lit, Nat.zero_add]; exact h j u hu⟩⟩
variable {P : Program}
theorem run_append_C (t ty : TypeId) (i : TypeInfo) (z : Value) (bytes : Nat) (ht : P.underlying t = some (.slice e)) (hi : P.info? e = some i) (hz : i.zero = some z)
    (hsize : i.size = size) (hby : i.bytes = bytes) (hzs : z.cells.size = size) (hsz : 0 < size) (hown : OwnC w base e size v n xs)
    (A : Option Addr) (m c : Nat) (news : List Value) (hs : Src w size A m news) (h1 : ∀ u ∈ news, u.oneCell' = true) (h63 : n + m ≤ maxLen) (hbytes : (n + m) * bytes ≤ 140737488355328) (hbase : base ≤ w.heap.size) :
    ∃ v' w', (Builtin.append_ #[t, t] ty #[v, .slice A m c]).run P w = .ok v' w' ∧ OwnC w' base e size v' (n + m) (xs ++ news) ∧ w.grownBy w' v.ownBlock ∧ (v'.ownBlock = v.ownBlock ∨ ∀ k, v'.ownBlock = some k → w.heap.size ≤ k) := by
  rcases Nat.eq_zero_or_pos m with rfl | hm
  · have hn : news = [] := List.eq_nil_of_length_eq_zero (by simpa using hs.1)
    subst hn
    refine ⟨v, w, ?_, by simpa using hown, ⟨rfl, rfl, rfl, Nat.le_refl _, fun _ _ _ => rfl⟩, .inl rfl⟩
    rcases hown.2 with ⟨rfl, rfl⟩ | ⟨g, cap, cur, rfl, _, _, hnc, _⟩
    · cases A <;> simp [Builtin.append_, run_underlying ht, sizeOf, typeInfo, hi, Builtin.lenOf, Builtin.firstCells, loadCells, loadCellsFrom]
    · cases A <;> simp [Builtin.append_, run_underlying ht, sizeOf, typeInfo, hi, Builtin.lenOf, Builtin.firstCells, loadCells, loadCellsFrom, hnc, storeCells]
  obtain ⟨ad, rfl, hnews⟩ := hs.2 hm
  have hl := hs.1
  rcases hown.2 with ⟨rfl, rfl⟩ | ⟨g, cap, cur, rfl, hbg, hg, hnc, hcm, hcs, htake⟩
  · have hx : xs = [] := List.eq_nil_of_length_eq_zero (by simpa using hown.1)
    subst hx
    obtain ⟨v', w', hr, h2, h3, h4⟩ := run_append_own_at (P := P) w base t ty e i z size bytes ht hi hz hsize hby hzs hsz _ 0 [] (World.ownsRow_nil w base e size) ad m c news hl hnews h1 h63 hbytes hbase
    refine ⟨v', w', hr, .of h2, h3, ?_⟩
    rcases h4.2 with h5 | h5
    · exact .inl h5
    · exact .inr fun k hk => by rw [h5] at hk; injection hk with hk; omega
  · subst hsize
    by_cases hroom : n + m ≤ cap
    · have hfit : n * i.size + news.length ≤ cur.size := by rw [hl, ← Nat.add_mul]; exact Nat.le_trans (Nat.mul_le_mul_right _ hroom) hcs
      have hr := run_append_room (P := P) w t ty e i ht hi g n cap cur hg ad m c news hl hnews h1 hroom hfit
      have hlen : (xs ++ news).length = (n + m) * i.size := by rw [List.length_append, hown.1, hl, Nat.add_mul]
      refine ⟨_, _, hr, ⟨hlen, .inr ⟨g, cap, _, rfl, hbg, setRow_heap w g cur _ e _ hg, hroom, hcm, ?_, ?_⟩⟩, ⟨rfl, rfl, rfl, by simp, fun k _ hk => setRow_other w g k _ (fun e => hk (by simp [Value.ownBlock, e]))⟩, .inl rfl⟩
      · simp only [List.size_toArray, List.length_append, List.length_take, List.length_drop, Array.length_toList]
        omega
      · rw [htake, ← hlen]
        exact List.take_left
    · obtain ⟨v', w', hr, h2, h3⟩ := run_append_arg_grows (P := P) w t ty e i z i.size bytes ht hi hz rfl hby hzs hsz ⟨g, 0, none⟩ n cap xs hown.1 (fun j u hu => by rw [Addr.add_lit, Nat.zero_add]; exact hown.cells (g := g) rfl j u hu) ad m c news hl hnews (by omega) h63 hbytes
      have h4 := OwnC.of h2
      refine ⟨v', w', hr, ⟨h4.1, ?_⟩, ⟨h3.os, h3.tape, h3.output, h3.size, fun k hk _ => h3.block k hk (by simp)⟩, .inr fun k hk => (h4.lt k hk).1⟩
      rcases h4.2 with hn | ⟨g', cap', cur', q1, q2, q3⟩
      · exact .inl hn
      · exact .inr ⟨g', cap', cur', q1, Nat.le_trans hbase q2, q3⟩
variable {t : TypeId} {i : TypeInfo} {z : Value} {bytes m c : Nat} {A : Option Addr} {news : List Value} {ops : Array Oper} {o : Oper} {a : Act} {Q : Exit → Act → World → Prop}
theorem wp_append_C {K : Act → World → Prop} (s x : Operand) (ho : o.op = .call { callee := .builtin .append, args := #[s, x], argTypes := #[t, t] })
    (ht : P.underlying t = some (.slice e)) (hi : P.info? e = some i) (hz : i.zero = some z) (hsize : i.size = size) (hby : i.bytes = bytes) (hzs : z.cells.size = size) (hsz : 0 < size)
    (hs : a.eval s = v) (hx : a.eval x = .slice A m c) (hown : OwnC w base e size v n xs) (hr : Src w size A m news) (h1 : ∀ u ∈ news, u.oneCell' = true) (h63 : n + m ≤ maxLen) (hbytes : (n + m) * bytes ≤ 140737488355328) (hbase : base ≤ w.heap.size)
    (h : ∀ v' w', OwnC w' base e size v' (n + m) (xs ++ news) → w.grownBy w' v.ownBlock → (v'.ownBlock = v.ownBlock ∨ ∀ k, v'.ownBlock = some k → w.heap.size ≤ k) → K (a.put o.dst v') w') : o.wp P a w K Q := by
  obtain ⟨v', w', hrun, h2, h3, h4⟩ := run_append_C (P := P) t o.type i z bytes ht hi hz hsize hby hzs hsz hown A m c news hr h1 h63 hbytes hbase
  unfold Oper.wp execOp
  simp only [ho, resolve, invoke, builtin, Sem.run_bind, Sem.run_pure, Result.andThen_ok, List.map_toArray, List.map_cons, List.map_nil, hs, hx, hrun]
  exact h v' w' h2 h3 h4
theorem wpList_append_C {rest : List Oper} (hgd : o.guard = none) (s x : Operand) (ho : o.op = .call { callee := .builtin .append, args := #[s, x], argTypes := #[t, t] })
    (ht : P.underlying t = some (.slice e)) (hi : P.info? e = some i) (hz : i.zero = some z) (hsize : i.size = size) (hby : i.bytes = bytes) (hzs : z.cells.size = size) (hsz : 0 < size)
    (hs : a.eval s = v) (hx : a.eval x = .slice A m c) (hown : OwnC w base e size v n xs) (hr : Src w size A m news) (h1 : ∀ u ∈ news, u.oneCell' = true) (h63 : n + m ≤ maxLen) (hbytes : (n + m) * bytes ≤ 140737488355328) (hbase : base ≤ w.heap.size)
    (h : ∀ v' w', OwnC w' base e size v' (n + m) (xs ++ news) → w.grownBy w' v.ownBlock → (v'.ownBlock = v.ownBlock ∨ ∀ k, v'.ownBlock = some k → w.heap.size ≤ k) → wpList P ops Q rest (a.put o.dst v') w') : wpList P ops Q (o :: rest) a w :=
  wpList_plain hgd fun _ hK => wp_append_C s x ho ht hi hz hsize hby hzs hsz hs hx hown hr h1 h63 hbytes hbase fun v' w' h2 h3 h4 => hK _ _ (h v' w' h2 h3 h4)
theorem step_append_C {K : Act → World → Prop} {E : Prop} (hgd : o.guard = none) (s x : Operand) (ho : o.op = .call { callee := .builtin .append, args := #[s, x], argTypes := #[t, t] })
    (ht : P.underlying t = some (.slice e)) (hi : P.info? e = some i) (hz : i.zero = some z) (hsize : i.size = size) (hby : i.bytes = bytes) (hzs : z.cells.size = size) (hsz : 0 < size)
    (hs : a.eval s = v) (hx : a.eval x = .slice A m c) (hown : OwnC w base e size v n xs) (hr : Src w size A m news) (h1 : ∀ u ∈ news, u.oneCell' = true) (h63 : n + m ≤ maxLen) (hbytes : (n + m) * bytes ≤ 140737488355328) (hbase : base ≤ w.heap.size)
    (h : ∀ v' w', OwnC w' base e size v' (n + m) (xs ++ news) → w.grownBy w' v.ownBlock → (v'.ownBlock = v.ownBlock ∨ ∀ k, v'.ownBlock = some k → w.heap.size ≤ k) → K (a.put o.dst v') w') : if Region.wanted o (yielded ops a.tmps) = true then Oper.wp P o a w K Q else E := by
  have hw : Region.wanted o (yielded ops a.tmps) = true := by simp [Region.wanted, hgd]
  rw [if_pos hw]
  exact wp_append_C s x ho ht hi hz hsize hby hzs hsz hs hx hown hr h1 h63 hbytes hbase h
end

/-! ### what belongs to a struct -/
/-- block k is the struct's, or one of its slices' -/
def ownOf (w : World) (p k : Nat) : Prop := k = p ∨ ∃ cs t f, w.heap[p]? = some (.cells cs t f) ∧ ∃ v ∈ cs, v.ownBlock = some k
/-- nothing but what belongs to the struct has turned; what did not belong to it does not yet -/
structure PStep (p : Nat) (w w' : World) : Prop where
  os : w'.os = w.os
  tape : w'.tape = w.tape
  output : w'.output = w.output
  size : w.heap.size ≤ w'.heap.size
  block : ∀ k, k < w.heap.size → ¬ ownOf w p k → w'.heap[k]? = w.heap[k]? ∧ ¬ ownOf w' p k
section
variable {p q : Nat} {w w' w'' : World}
theorem ownOf.same (h : w'.heap[p]? = w.heap[p]?) {k : Nat} : ownOf w' p k ↔ ownOf w p k := by unfold ownOf; rw [h]
theorem PStep.refl (p : Nat) (w : World) : PStep p w w := ⟨rfl, rfl, rfl, Nat.le_refl _, fun _ _ h => ⟨rfl, h⟩⟩
theorem PStep.trans (h : PStep p w w') (k : PStep p w' w'') : PStep p w w'' :=
  ⟨k.os.trans h.os, k.tape.trans h.tape, k.output.trans h.output, Nat.le_trans h.size k.size, fun i hi hn => by
    obtain ⟨e1, n1⟩ := h.block i hi hn
    obtain ⟨e2, n2⟩ := k.block i (Nat.lt_of_lt_of_le hi h.size) n1
    exact ⟨e2.trans e1, n2⟩⟩
theorem PStep.of_below (hp : p < w.heap.size) (h : Below w.heap.size w w') : PStep p w w' :=
  ⟨h.os, h.tape, h.output, h.size, fun k hk hn => ⟨h.block k hk, fun e => hn ((ownOf.same (h.block p hp)).1 e)⟩⟩
theorem PStep.drewN (h : PStep p w w') (n : Nat) : PStep p w (w'.drewN n) := ⟨h.os, h.tape, h.output, h.size, h.block⟩
theorem PStep.drew (h : PStep p w w') : PStep p w w'.drew := ⟨h.os, h.tape, h.output, h.size, h.block⟩
/-- all that belongs to it lies from B on -/
theorem PStep.below {B : Nat} (h : PStep p w w') (hB : B ≤ w.heap.size) (ho : ∀ k, ownOf w p k → B ≤ k) : Below B w w' :=
  ⟨h.os, h.tape, h.output, h.size, fun k hk => (h.block k (by omega) (fun e => by have := ho k e; omega)).1⟩
/-- two structs share nothing -/
def Apart (w : World) (p q : Nat) : Prop := ∀ k, ownOf w q k → k < w.heap.size ∧ ¬ ownOf w p k
theorem Apart.keep (h : Apart w p q) (hs : PStep p w w') : (∀ k, ownOf w q k → w'.heap[k]? = w.heap[k]?) ∧ Apart w' p q := by
  have h1 : ∀ k, ownOf w q k → w'.heap[k]? = w.heap[k]? := fun k hk => (hs.block k (h k hk).1 (h k hk).2).1
  have hq := h1 q (.inl rfl)
  exact ⟨h1, fun k hk => by
    have hk' := (ownOf.same hq).1 hk
    exact ⟨Nat.lt_of_lt_of_le (h k hk').1 hs.size, (hs.block k (h k hk').1 (h k hk').2).2⟩⟩
end

/-! ### what cells read as -/
/-- k cells read as an x; the reading leans on blocks of S alone -/
structure Rep (α : Type) where
  k : Nat
  rd : (Nat → Prop) → World → α → List Value → Prop
  len : ∀ {S w x cs}, rd S w x cs → cs.length = k
  one : ∀ {S w x cs}, rd S w x cs → ∀ u ∈ cs, u.oneCell' = true
  keep : ∀ {S w w' x cs}, rd S w x cs → (∀ b, b < w.heap.size → S b → w'.heap[b]? = w.heap[b]?) → w.heap.size ≤ w'.heap.size → rd S w' x cs
  mono : ∀ {S S' : Nat → Prop} {w x cs}, rd S w x cs → (∀ b, b < w.heap.size → S b → S' b) → rd S' w x cs
def Rep.int : Rep Int where
  k := 1
  rd _ _ x cs := cs = [.int .i64 x] ∧ -9223372036854775808 ≤ x ∧ x ≤ 9223372036854775807
  len h := by rw [h.1]; rfl
  one h := by rw [h.1]; intro u hu; simp at hu; subst hu; rfl
  keep h _ _ := h
  mono h _ := h
def Rep.bool : Rep Bool where
  k := 1
  rd _ _ x cs := cs = [.bool x]
  len h := by rw [h]; rfl
  one h := by rw [h]; intro u hu; simp at hu; subst hu; rfl
  keep h _ _ := h
  mono h _ := h
def Rep.str : Rep ByteArray where
  k := 1
  rd _ _ x cs := cs = [.string x]
  len h := by rw [h]; rfl
  one h := by rw [h]; intro u hu; simp at hu; subst hu; rfl
  keep h _ _ := h
  mono h _ := h
variable {α β : Type}
def Rep.prod (R : Rep α) (T : Rep β) : Rep (α × β) where
  k := R.k + T.k
  rd S w x cs := ∃ c d, cs = c ++ d ∧ R.rd S w x.1 c ∧ T.rd S w x.2 d
  len h := by obtain ⟨c, d, rfl, h1, h2⟩ := h; rw [List.length_append, R.len h1, T.len h2]
  one h := by
    obtain ⟨c, d, rfl, h1, h2⟩ := h
    intro u hu
    rcases List.mem_append.1 hu with hu | hu
    · exact R.one h1 u hu
    · exact T.one h2 u hu
  keep h hk hs := by obtain ⟨c, d, rfl, h1, h2⟩ := h; exact ⟨c, d, rfl, R.keep h1 hk hs, T.keep h2 hk hs⟩
  mono h hk := by obtain ⟨c, d, rfl, h1, h2⟩ := h; exact ⟨c, d, rfl, R.mono h1 hk, T.mono h2 hk⟩
def Rep.map (f : β → α) (R : Rep α) : Rep β where
  k := R.k
  rd S w x cs := R.rd S w (f x) cs
  len h := R.len h
  one h := R.one h
  keep h := R.keep h
  mono h := R.mono h
/-- The slice with address a and length n reads as xs. -/
def SlR (R : Rep α) (S : Nat → Prop) (w : World) (a : Option Addr) (n : Nat) (xs : List α) : Prop :=
  xs.length = n ∧ (0 < n → ∃ b o, a = some ⟨b, o, none⟩ ∧ b < w.heap.size ∧ S b ∧ ∀ j x, xs[j]? = some x → ∃ cs, R.rd S w x cs ∧ ∀ i u, cs[i]? = some u → w.cell? ⟨b, o + j * R.k + i, none⟩ = some u)
section
variable {R : Rep α} {S S' : Nat → Prop} {w w' : World} {a : Option Addr} {n : Nat} {xs : List α}
theorem SlR.nil (R : Rep α) (S : Nat → Prop) (w : World) (a : Option Addr) : SlR R S w a 0 [] := ⟨rfl, fun h => absurd h (by omega)⟩
theorem SlR.keep (h : SlR R S w a n xs) (hk : ∀ b, b < w.heap.size → S b → w'.heap[b]? = w.heap[b]?) (hs : w.heap.size ≤ w'.heap.size) : SlR R S w' a n xs :=
  ⟨h.1, fun hn => by
    obtain ⟨b, o, ha, hlt, hS, hc⟩ := h.2 hn
    refine ⟨b, o, ha, Nat.lt_of_lt_of_le hlt hs, hS, fun j x hx => ?_⟩
    obtain ⟨cs, h1, h2⟩ := hc j x hx
    exact ⟨cs, R.keep h1 hk hs, fun i u hu => by rw [World.cell?_of_block (w := w) (a := ⟨b, o + j * R.k + i, none⟩) (hk b hlt hS)]; exact h2 i u hu⟩⟩
theorem SlR.mono (h : SlR R S w a n xs) (hk : ∀ b, b < w.heap.size → S b → S' b) : SlR R S' w a n xs :=
  ⟨h.1, fun hn => by
    obtain ⟨b, o, ha, hlt, hS, hc⟩ := h.2 hn
    refine ⟨b, o, ha, hlt, hk b hlt hS, fun j x hx => ?_⟩
    obtain ⟨cs, h1, h2⟩ := hc j x hx
    exact ⟨cs, R.mono h1 hk, h2⟩⟩
theorem SlR.below {B : Nat} (h : SlR R S w a n xs) (hb : Below B w w') (hB : w.heap.size ≤ B) : SlR R S w' a n xs := h.keep (fun b hlt _ => hb.block b (Nat.lt_of_lt_of_le hlt hB)) hb.size
theorem SlR.at (h : SlR R S w a n xs) {j : Nat} {x : α} (hx : xs[j]? = some x) : ∃ b o cs, a = some ⟨b, o, none⟩ ∧ S b ∧ R.rd S w x cs ∧ ∀ i u, cs[i]? = some u → w.cell? ⟨b, o + j * R.k + i, none⟩ = some u := by
  have hj : j < xs.length := (List.getElem?_eq_some_iff.1 hx).1
  obtain ⟨b, o, ha, _, hS, hc⟩ := h.2 (by have := h.1; omega)
  obtain ⟨cs, h1, h2⟩ := hc j x hx
  exact ⟨b, o, cs, ha, hS, h1, h2⟩
end
def Rep.slice (R : Rep α) : Rep (List α) where
  k := 1
  rd S w xs cs := ∃ a n c, cs = [.slice a n c] ∧ n ≤ c ∧ c ≤ maxLen ∧ SlR R S w a n xs
  len h := by obtain ⟨a, n, c, rfl, _⟩ := h; rfl
  one h := by obtain ⟨a, n, c, rfl, _⟩ := h; intro u hu; simp at hu; subst hu; rfl
  keep h hk hs := by obtain ⟨a, n, c, rfl, h1, h2, h3⟩ := h; exact ⟨a, n, c, rfl, h1, h2, h3.keep hk hs⟩
  mono h hk := by obtain ⟨a, n, c, rfl, h1, h2, h3⟩ := h; exact ⟨a, n, c, rfl, h1, h2, h3.mono hk⟩
theorem SlR.toI {S : Nat → Prop} {w : World} {a : Option Addr} {n : Nat} {xs : List Int} (h : SlR Rep.int S w a n xs) : RdI w a n xs := by
  refine ⟨h.1, fun x hx => ?_, fun hn => ?_⟩
  · obtain ⟨j, hj, rfl⟩ := List.getElem_of_mem hx
    obtain ⟨b, o, cs, _, _, h1, _⟩ := h.at (List.getElem?_eq_getElem hj)
    exact h1.2
  · obtain ⟨b, o, ha, hlt, hS, hc⟩ := h.2 hn
    refine ⟨b, o, ha, hlt, fun j hj => ?_⟩
    have hjx : j < xs.length := by have := h.1; omega
    obtain ⟨cs, h1, h2⟩ := hc j _ (List.getElem?_eq_getElem hjx)
    have h3 := h2 0 (.int .i64 xs[j]) (by rw [h1.1]; rfl)
    rw [nth_eq hjx]
    simpa [Rep.int] using h3
theorem SlR.ofI {S : Nat → Prop} {w : World} {a : Option Addr} {n : Nat} {xs : List Int} (h : RdI w a n xs) (hS : ∀ x, 0 < n → a = some x → S x.block) : SlR Rep.int S w a n xs := by
  refine ⟨h.len, fun hn => ?_⟩
  obtain ⟨b, o, ha, hlt, hc⟩ := h.cells hn
  refine ⟨b, o, ha, hlt, hS _ hn ha, fun j x hx => ?_⟩
  have hj : j < xs.length := (List.getElem?_eq_some_iff.1 hx).1
  refine ⟨[.int .i64 x], ⟨rfl, h.wf x (List.mem_of_getElem? hx)⟩, fun i u hu => ?_⟩
  match i with
  | 0 =>
    simp at hu
    subst hu
    have := hc j (by have := h.len; omega)
    rw [nth_eq hj] at this
    simp [Rep.int]
    rw [this]
    congr 1
    congr 1
    have := List.getElem?_eq_getElem hj
    rw [hx] at this
    injection this with this
    exact this.symm
  | i + 1 => simp at hu

/-- A row of one's own reads as xs; the reading of its elements leans on blocks of S. -/
def OwnR (R : Rep α) (S : Nat → Prop) (w : World) (base : Nat) (e : TypeId) (v : Value) (xs : List α) : Prop :=
  ∃ css : List (List Value), OwnC w base e R.k v xs.length css.flatten ∧ css.length = xs.length ∧ ∀ (j : Nat) (x : α), xs[j]? = some x → ∃ cs, css[j]? = some cs ∧ R.rd S w x cs
theorem flat_at {k : Nat} : ∀ {css : List (List Value)} (_ : ∀ cs ∈ css, cs.length = k) {j : Nat} {cs : List Value} (_ : css[j]? = some cs) {i : Nat} {u : Value} (_ : cs[i]? = some u), css.flatten[j * k + i]? = some u
  | c :: css, hl, 0, cs, h, i, u, hu => by
    simp at h
    subst h
    rw [List.flatten_cons, Nat.zero_mul, Nat.zero_add, List.getElem?_append_left (List.getElem?_eq_some_iff.1 hu).1]
    exact hu
  | c :: css, hl, j + 1, cs, h, i, u, hu => by
    have hc := hl c (by simp)
    rw [List.flatten_cons, List.getElem?_append_right (by rw [hc, Nat.succ_mul]; omega), hc, show (j + 1) * k + i - k = j * k + i by rw [Nat.succ_mul]; omega]
    exact flat_at (fun cs h => hl cs (by simp [h])) (by simpa using h) hu
section
variable {R : Rep α} {S S' : Nat → Prop} {w w' : World} {base : Nat} {e : TypeId} {v v' : Value} {xs : List α}
theorem OwnR.nil (R : Rep α) (S : Nat → Prop) (w : World) (base : Nat) (e : TypeId) : OwnR R S w base e (.slice none 0 0) [] := ⟨[], OwnC.nil _ _ _ _, rfl, fun j x h => by simp at h⟩
theorem OwnR.keep (h : OwnR R S w base e v xs) (hk : ∀ b, b < w.heap.size → S b → w'.heap[b]? = w.heap[b]?) (hv : ∀ k, v.ownBlock = some k → w'.heap[k]? = w.heap[k]?) (hs : w.heap.size ≤ w'.heap.size) : OwnR R S w' base e v xs := by
  obtain ⟨css, h1, h2, h3⟩ := h
  refine ⟨css, h1.same hv, h2, fun j x hx => ?_⟩
  obtain ⟨cs, h4, h5⟩ := h3 j x hx
  exact ⟨cs, h4, R.keep h5 hk hs⟩
theorem OwnR.below {B : Nat} (h : OwnR R S w base e v xs) (hb : Below B w w') (hB : w.heap.size ≤ B) : OwnR R S w' base e v xs :=
  h.keep (fun b hlt _ => hb.block b (Nat.lt_of_lt_of_le hlt hB)) (fun k hk => by obtain ⟨css, h1, _⟩ := h; exact hb.block k (Nat.lt_of_lt_of_le (h1.lt k hk).2 hB)) hb.size
theorem OwnR.mono (h : OwnR R S w base e v xs) (hk : ∀ b, b < w.heap.size → S b → S' b) : OwnR R S' w base e v xs := by
  obtain ⟨css, h1, h2, h3⟩ := h
  refine ⟨css, h1, h2, fun j x hx => ?_⟩
  obtain ⟨cs, h4, h5⟩ := h3 j x hx
  exact ⟨cs, h4, R.mono h5 hk⟩
theorem OwnR.lens {css : List (List Value)} (h2 : css.length = xs.length) (h3 : ∀ (j : Nat) (x : α), xs[j]? = some x → ∃ cs, css[j]? = some cs ∧ R.rd S w x cs) : ∀ cs ∈ css, cs.length = R.k := fun cs hc => by
  obtain ⟨j, hj, rfl⟩ := List.getElem_of_mem hc
  obtain ⟨cs, h4, h5⟩ := h3 j _ (List.getElem?_eq_getElem (by omega : j < xs.length))
  rw [List.getElem?_eq_getElem hj] at h4
  injection h4 with h4
  rw [h4]; exact R.len h5
theorem OwnR.slice (h : OwnR R S w base e v xs) : ∃ a c, v = .slice a xs.length c ∧ xs.length ≤ c ∧ c ≤ maxLen := by obtain ⟨css, h1, _⟩ := h; exact h1.slice
theorem OwnR.lt (h : OwnR R S w base e v xs) : ∀ k, v.ownBlock = some k → base ≤ k ∧ k < w.heap.size := by obtain ⟨css, h1, _⟩ := h; exact h1.lt
theorem OwnR.ty (h : OwnR R S w base e v xs) : ∀ k, v.ownBlock = some k → ∃ cs f, w.heap[k]? = some (.cells cs e f) := by obtain ⟨css, h1, _⟩ := h; exact h1.ty
/-- it can be read -/
theorem OwnR.read {a : Option Addr} {n c : Nat} (h : OwnR R S w base e (.slice a n c) xs) (hS : ∀ b, b < w.heap.size → S b → S' b) (ho : ∀ b, Value.ownBlock (.slice a n c) = some b → S' b) : SlR R S' w a n xs := by
  obtain ⟨css, h1, h2, h3⟩ := h
  obtain ⟨a', c', hv, _⟩ := h1.slice
  cases hv
  refine ⟨rfl, fun hn => ?_⟩
  obtain ⟨g, cap, hv, _, hlt⟩ := h1.form hn
  cases hv
  refine ⟨g, 0, rfl, hlt, ho g rfl, fun j x hx => ?_⟩
  obtain ⟨cs, h4, h5⟩ := h3 j x hx
  refine ⟨cs, R.mono h5 hS, fun i u hu => ?_⟩
  rw [Nat.zero_add]
  exact h1.cells (g := g) rfl _ u (flat_at (OwnR.lens h2 h3) h4 hu)
/-- behind an append of one element -/
theorem OwnR.push {x : α} {cs : List Value} {css : List (List Value)} (h2 : css.length = xs.length) (h3 : ∀ (j : Nat) (x : α), xs[j]? = some x → ∃ cs, css[j]? = some cs ∧ R.rd S w x cs) (hx : R.rd S w x cs)
    (ho : OwnC w' base e R.k v' (xs.length + 1) (css.flatten ++ cs)) (hk : ∀ b, b < w.heap.size → S b → w'.heap[b]? = w.heap[b]?) (hs : w.heap.size ≤ w'.heap.size) : OwnR R S w' base e v' (xs ++ [x]) := by
  refine ⟨css ++ [cs], by simpa using ho, by simp [h2], fun j y hy => ?_⟩
  by_cases hj : j < xs.length
  · rw [List.getElem?_append_left hj] at hy
    obtain ⟨ds, h4, h5⟩ := h3 j y hy
    exact ⟨ds, by rw [List.getElem?_append_left (by omega)]; exact h4, R.keep h5 hk hs⟩
  · have hl := (List.getElem?_eq_some_iff.1 hy).1
    rw [List.length_append, List.length_singleton] at hl
    obtain rfl : j = xs.length := by omega
    rw [List.getElem?_append_right (Nat.le_refl _)] at hy
    simp at hy
    subst hy
    exact ⟨cs, by rw [← h2]; simp, R.keep hx hk hs⟩
/-- 'v[:k:c]' -/
theorem OwnR.cut {a : Option Addr} {n c c' k : Nat} (h : OwnR R S w base e (.slice a n c) xs) (hk : k ≤ n) (hc1 : k ≤ c') (hc2 : c' ≤ c) : OwnR R S w base e (.slice a k c') (xs.take k) := by
  obtain ⟨css, h1, h2, h3⟩ := h
  obtain ⟨a', c'', hv, _⟩ := h1.slice
  cases hv
  have hl : (xs.take k).length = k := by rw [List.length_take]; omega
  refine ⟨css.take k, ?_, by rw [List.length_take, List.length_take, h2], fun j x hx => ?_⟩
  · rw [hl]
    have h5 := h1.cut hk hc1 hc2
    rw [show css.flatten.take (k * R.k) = (css.take k).flatten by
      have : ∀ (css : List (List Value)) (k : Nat), (∀ cs ∈ css, cs.length = R.k) → css.flatten.take (k * R.k) = (css.take k).flatten := by
        intro css
        induction css with
        | nil => intro k _; simp
        | cons c css ih =>
          intro k hl
          cases k with
          | zero => simp
          | succ k =>
            have hc := hl c (by simp)
            rw [List.take_succ_cons, List.flatten_cons, List.flatten_cons, List.take_append, List.take_of_length_le (by rw [hc, Nat.succ_mul]; omega), hc, show (k + 1) * R.k - R.k = k * R.k by rw [Nat.succ_mul]; omega, ih k (fun cs h => hl cs (by simp [h]))]
      exact this css k (OwnR.lens h2 h3)] at h5
    exact h5
  · have hj := (List.getElem?_eq_some_iff.1 hx).1
    rw [hl] at hj
    rw [List.getElem?_take_of_lt hj] at hx
    obtain ⟨cs, h4, h5⟩ := h3 j x hx
    exact ⟨cs, by rw [List.getElem?_take_of_lt hj]; exact h4, h5⟩
end
end Go.Proofs.YtpkajhmgkmkcgaaDoor
