/-
  sorts: own, Find (with its closure and slices.IndexFunc), MayFun. Conditions: a table in memory of fewer than 2^40 functions, each of fewer than 2^40 sorts.
-/
import Derived.Test.YtpkajhmgkmkcgaaDoorSC
namespace Go.Proofs.YtpkajhmgkmkcgaaDoor
open Go.RowKit Go.Sort Go.Lib
variable {X : Nat → Prop}

theorem heap2a (w : World) (a b : Obj) : ((w.alloc a).alloc b).heap[w.heap.size]? = some a := (Below.heap_alloc _ _ _ (by simp)).trans (heap_alloc_new w a)
theorem heap2b (w : World) (a b : Obj) : ((w.alloc a).alloc b).heap[w.heap.size + 1]? = some b := by
  have := heap_alloc_new (w.alloc a) b
  rwa [World.size_alloc] at this
def WfI (xs : List Int) : Prop := ∀ x ∈ xs, -9223372036854775808 ≤ x ∧ x ≤ 9223372036854775807
theorem clone_any (a : Option Addr) (n c : Nat) (xs : List Int) (w : World) (hx : RdI w a n xs) (hn : n < 17592186044416) :
    Calls Tryd.prog 49 #[.slice a n c] w fun e w' => ∃ a' c', e = .returned (.slice a' n c') ∧ w'.ownsRow w.heap.size 3 1 (.slice a' n c') n (xs.map (Value.int .i64)) ∧ Below w.heap.size w w' := by
  by_cases h0 : 0 < n
  · obtain ⟨b, o, rfl, _, hc⟩ := hx.cells h0
    refine (Tryd.slices_Clone_int b o n c xs w (by rw [hx.len]; exact Nat.le_refl _) (by omega) (fun j hj => hc j (by rw [← hx.len]; exact hj))).mono ?_
    rintro e w' ⟨v', he, ho, _, hb⟩
    rw [show xs.take n = xs by rw [← hx.len, List.take_length]] at ho
    obtain ⟨a', c', rfl, _⟩ := (OwnC.of ho).slice
    exact ⟨a', c', he, ho, hb⟩
  · obtain rfl : n = 0 := by omega
    have : xs = [] := List.eq_nil_of_length_eq_zero hx.len
    subst this
    cases a with
    | none =>
      refine (Tryd.slices_Clone_int_nil 0 c w).mono ?_
      rintro e w' ⟨he, rfl⟩
      exact ⟨none, 0, he, World.ownsRow_nil _ _ _ _, Below.refl _ _⟩
    | some a =>
      refine (Tryd.slices_Clone_int_zero a c w).mono ?_
      rintro e w' ⟨v', he, ho, _, hb⟩
      obtain ⟨a', c', rfl, _⟩ := (OwnC.of ho).slice
      exact ⟨a', c', he, ho, hb⟩
theorem own_intB {w : World} {base n : Nat} {a : Option Addr} {m c : Nat} {xs : List Int} (h : w.ownsRow base 3 1 (.slice a m c) n (xs.map (Value.int .i64))) (hwf : WfI xs) (hX : ∀ k, X k → k < base) : m = n ∧ SlR Rep.int (IntX X w) w a n xs ∧ m ≤ c ∧ c ≤ maxLen := by
  obtain ⟨h1, h2, _⟩ := RdI.own h hwf
  obtain ⟨a', c', hv, h4, h5⟩ := (OwnC.of h).slice
  cases hv
  refine ⟨h1, SlR.ofI h2 fun x hn hx => ?_, h4, h5⟩
  subst hx
  exact ⟨fun hxx => by have := hX _ hxx; have := ((OwnC.of h).lt _ rfl).1; omega, (OwnC.of h).ty _ rfl⟩
theorem intB_set {w : World} {p : Addr} {v : Value} {k : Nat} : IntX X (w.setCell p v) k ↔ IntX X w k := by
  refine and_congr_right fun _ => ?_
  unfold World.setCell
  rw [Array.getElem?_modify]
  by_cases h : p.block = k
  · subst h
    rw [if_pos rfl]
    cases hh : w.heap[p.block]? with
    | none => simp
    | some o =>
      cases o with
      | cells cs e f =>
        simp only [Option.map_some]
        split <;> simp_all
      | _ => simp only [Option.map_some]
  · rw [if_neg h]
theorem SlR.intSet {w : World} {p : Addr} {v : Value} {a : Option Addr} {n : Nat} {xs : List Int} (h : SlR Rep.int (IntX X w) w a n xs) (hp : ¬ IntX X w p.block) : SlR Rep.int (IntX X (w.setCell p v)) (w.setCell p v) a n xs :=
  (h.keep (fun b _ hb => Below.heap_setCell w p v b (fun e => hp (by rw [← e]; exact hb))) (by simp [World.setCell])).mono fun b _ hb => intB_set.2 hb
/-- a function's value, cell for cell -/
abbrev funV (nm : ByteArray) (a : Option Addr) (n c : Nat) (r : Int) : Value := .agg #[.string nm, .slice a n c, .int .i64 r]
def OwnPost (X : Nat → Prop) (nm : ByteArray) (xs : List Int) (r : Int) (w : World) (e : Ending) (w' : World) : Prop :=
  ∃ a c, e = .returned (funV nm a xs.length c r) ∧ SlR Rep.int (IntX X w') w' a xs.length xs ∧ xs.length ≤ c ∧ c ≤ maxLen ∧ Below w.heap.size w w'
set_option maxHeartbeats 400000 in
theorem ownF_any (nm : ByteArray) (a : Option Addr) (n c : Nat) (r : Int) (xs : List Int) (w : World) (hx : RdI w a n xs) (hn : n < 17592186044416) (hX : ∀ k, X k → k < w.heap.size) :
    Calls Tryd.prog 38 #[funV nm a n c r] w fun e w' => OwnPost X nm xs r w e w' := by
  have hx' := Lib.hid hx
  have lx := Lib.hid hx.len
  have wx := Lib.hid (show WfI xs from hx.wf)
  clear hx
  go_enter Tryd.func38, Tryd.ntmps38
  go_wp2_with fail
  have hb0 : Below w.heap.size w ((w.alloc (.cells #[.string nm, .slice a n c, .int .i64 r] 32)).alloc (.cells #[.string ByteArray.empty, .slice none 0 0, .int .i64 0] 32)) := ((Below.refl _ _).alloc (Nat.le_refl _) _).alloc (by simp) _
  have hb0' := Lib.hid hb0
  refine (clone_any a n c xs _ (hx'.out.below hb0 (Nat.le_refl _)) hn).mono ?_
  rintro e w1 ⟨a', c', rfl, ho, hb1⟩
  obtain ⟨_, hs, hc1, hc2⟩ := own_intB (X := X) ho wx.out (fun k hk => by have := hX k hk; simp; omega)
  have hs' := Lib.hid hs
  have hb1' := Lib.hid hb1
  have hc1' := Lib.hid hc1
  have hc2' := Lib.hid hc2
  have hz := hb1.size
  simp only [World.size_alloc] at hz
  have H1 := (hb1.block w.heap.size (by simp; omega)).trans (heap2a w _ _)
  have H2 := (hb1.block (w.heap.size + 1) (by simp)).trans (heap2b w _ _)
  have k10 : w1.cell? ⟨w.heap.size, 0, none⟩ = some (.string nm) := cell_p H1 0
  have k11 : w1.cell? ⟨w.heap.size, 1, none⟩ = some (.slice a n c) := cell_p H1 1
  have k12 : w1.cell? ⟨w.heap.size, 2, none⟩ = some (.int .i64 r) := cell_p H1 2
  have k20 : w1.cell? ⟨w.heap.size + 1, 0, none⟩ = some (.string ByteArray.empty) := cell_p H2 0
  have k21 : w1.cell? ⟨w.heap.size + 1, 1, none⟩ = some (.slice none 0 0) := cell_p H2 1
  have k22 : w1.cell? ⟨w.heap.size + 1, 2, none⟩ = some (.int .i64 0) := cell_p H2 2
  have f11 := frz_p H1 1
  have f20 := frz_p H2 0
  have f21 := frz_p H2 1
  have f22 := frz_p H2 2
  have hN1 := Lib.hid (show ¬ IntX X w1 w.heap.size from fun h => ty_ne (by decide) h.2 ⟨_, _, H1⟩)
  have hN2 := Lib.hid (show ¬ IntX X w1 (w.heap.size + 1) from fun h => ty_ne (by decide) h.2 ⟨_, _, H2⟩)
  clear ho hb1 hs hc1 hc2 hb0 H1 H2
  go_wp2
  refine bodyPost_ret (v := funV nm a' n c' r) (by simp [results, Tryd.results38, go_sem, *]) rfl ?_
  refine ⟨a', c', by rw [lx.out], ?_, by rw [lx.out]; exact hc1'.out, hc2'.out, ?_⟩
  · rw [lx.out]
    exact (((hs'.out.intSet hN1.out).intSet (fun h => hN2.out (intB_set.1 h))).intSet (fun h => hN2.out (intB_set.1 (intB_set.1 h)))).intSet (fun h => hN2.out (intB_set.1 (intB_set.1 (intB_set.1 h))))
  · have b1 : Below w.heap.size w w1 := hb0'.out.trans (hb1'.out.mono (by simp; omega))
    exact (((b1.setCell (Nat.le_refl _) _).setCell (by simp) _).setCell (by simp) _).setCell (by simp) _

def eqS (a b : ByteArray) : Bool := a.toList == b.toList
set_option maxHeartbeats 400000 in
/-- the closure of Find: is it this name? -/
theorem isName_any (nm s : ByteArray) (a : Option Addr) (n c x : Nat) (r : Int) (w : World) (hx : w.cell? ⟨x, 0, none⟩ = some (.string s)) :
    Calls Tryd.prog 40 #[funV nm a n c r, .pointer (some ⟨x, 0, none⟩)] w fun e w' => e = .returned (.bool (eqS nm s)) ∧ Below w.heap.size w w' := by
  have hd := @Lib.hid (eqS nm s = (nm.toList == s.toList)) rfl
  have hlt := World.block_lt_of_cell? w _ hx
  go_enter Tryd.func40, Tryd.ntmps40
  go_wp2
  go_ret
  exact ⟨ret_bool hd.out.symm, (Below.refl _ _).alloc (Nat.le_refl _) _⟩
def idxP {α : Type} (p : α → Bool) : List α → Nat → Int
  | [], _ => -1
  | x :: xs, i => if p x then i else idxP p xs (i + 1)
theorem idxP_skip {α : Type} {p : α → Bool} : ∀ {xs : List α} {k i : Nat}, (∀ j x, j < k → xs[j]? = some x → p x = false) → k ≤ xs.length → idxP p xs i = idxP p (xs.drop k) (i + k)
  | xs, 0, i, _, _ => by simp
  | [], k + 1, i, _, hk => by simp at hk
  | x :: xs, k + 1, i, h, hk => by
    have h0 := h 0 x (by omega) rfl
    rw [List.drop_succ_cons, ← Nat.add_assoc, Nat.add_right_comm, ← idxP_skip (xs := xs) (k := k) (i := i + 1) (fun j y hj hy => h (j + 1) y (by omega) (by simpa using hy)) (by simpa using hk)]
    show (if p x = true then (i : Int) else idxP p xs (i + 1)) = _
    rw [h0]; rfl
theorem idxP_hit {α : Type} {p : α → Bool} {xs : List α} {k : Nat} {x : α} (h : ∀ j x, j < k → xs[j]? = some x → p x = false) (hk : xs[k]? = some x) (hx : p x = true) : idxP p xs 0 = k := by
  have hl := (List.getElem?_eq_some_iff.1 hk).1
  rw [idxP_skip h (by omega), Nat.zero_add, List.drop_eq_getElem_cons hl]
  have : xs[k] = x := (List.getElem?_eq_some_iff.1 hk).2
  unfold idxP
  rw [this, if_pos hx]
theorem idxP_miss {α : Type} {p : α → Bool} {xs : List α} (h : ∀ j x, j < xs.length → xs[j]? = some x → p x = false) : idxP p xs 0 = -1 := by
  rw [idxP_skip h (Nat.le_refl _), List.drop_length]; rfl
theorem idxP_find {α : Type} {p : α → Bool} : ∀ (xs : List α) (i : Nat), match xs.find? p with
    | none => idxP p xs i = -1
    | some x => ∃ k : Nat, idxP p xs i = ((i + k : Nat) : Int) ∧ xs[k]? = some x
  | [], i => rfl
  | x :: xs, i => by
    rw [List.find?_cons]
    cases hx : p x with
    | true => exact ⟨0, by unfold idxP; rw [if_pos hx]; rfl, rfl⟩
    | false =>
      have := idxP_find (p := p) xs (i + 1)
      have e : idxP p (x :: xs) i = idxP p xs (i + 1) := by show (if p x = true then _ else _) = _; rw [hx]; rfl
      cases hf : xs.find? p with
      | none => rw [hf] at this; dsimp only at this ⊢; rw [e]; exact this
      | some y =>
        rw [hf] at this
        obtain ⟨k, h1, h2⟩ := this
        exact ⟨k + 1, by rw [e, h1]; congr 1; omega, by simpa using h2⟩
/-- the cells of a function in a slice of them -/
theorem SlR.funAt {S : Nat → Prop} {w : World} {a : Option Addr} {n : Nat} {fs : List FunD} (h : SlR repF S w a n fs) {k : Nat} {f : FunD} (hf : fs[k]? = some f) :
    ∃ b o a' c', a = some ⟨b, o, none⟩ ∧ w.cell? ⟨b, o + k * 3, none⟩ = some (.string f.name) ∧ w.cell? ⟨b, o + k * 3 + 1, none⟩ = some (.slice a' f.args.length c') ∧ w.cell? ⟨b, o + k * 3 + 2, none⟩ = some (.int .i64 f.res) ∧ SlR Rep.int S w a' f.args.length f.args ∧ okI f.res ∧ f.args.length ≤ c' ∧ c' ≤ maxLen := by
  obtain ⟨b, o, cs, ha, _, hr, hc⟩ := h.at hf
  obtain ⟨a', n', c', rfl, h1, h2, h3, h4⟩ := repF_rd.1 hr
  obtain rfl : n' = f.args.length := h3.1.symm
  rw [repF_k] at hc
  exact ⟨b, o, a', c', ha, hc 0 _ rfl, hc 1 _ rfl, hc 2 _ rfl, h3, h4, h1, h2⟩
set_option maxHeartbeats 1000000 in
theorem indexFunc_any {S : Nat → Prop} (a : Option Addr) (n c x : Nat) (fs : List FunD) (s : ByteArray) (w : World) (h : SlR repF S w a n fs) (hn : n < 1099511627776) (hx : w.cell? ⟨x, 0, none⟩ = some (.string s)) :
    Calls Tryd.prog 39 #[.slice a n c, .func (.func 40) #[] #[.pointer (some ⟨x, 0, none⟩)]] w fun e w' =>
      e = .returned (.int .i64 (idxP (fun f : FunD => eqS f.name s) fs 0)) ∧ Below w.heap.size w w' := by
  have h' := Lib.hid h
  have lx := Lib.hid h.1
  have hx' := Lib.hid hx
  have hlt := World.block_lt_of_cell? w _ hx
  clear h hx
  go_enter Tryd.func39, Tryd.ntmps39
  go_wp2
  go_loopw [4, 5, 8] (fun _ _ i wr => ∃ k : Nat, k ≤ n ∧ i = .int .i64 k ∧ Hid (∀ j f, j < k → fs[j]? = some f → eqS f.name s = false) ∧ Hid (Below w.heap.size w wr)) (fun _ _ i _ => n - (intOf i).toNat)
  case atStart => exact ⟨0, Nat.zero_le _, rfl, fun j f hj => absurd hj (Nat.not_lt_zero _), Below.refl _ _⟩
  case round =>
    obtain ⟨k, hk, rfl, hne, hB⟩ := hrel
    by_cases hlt2 : k < n
    · have hkx : k < fs.length := by rw [lx.out]; exact hlt2
      have hf := List.getElem?_eq_getElem hkx
      obtain ⟨b, o, a', c', rfl, k0, k1, k2, _⟩ := (h'.out.below hB.out (Nat.le_refl _)).funAt hf
      have hxr : wr.cell? ⟨x, 0, none⟩ = some (.string s) := by rw [hB.out.cell (p := ⟨x, 0, none⟩) hlt]; exact hx'.out
      have hcl := Lib.hid (isName_any fs[k].name s a' fs[k].args.length c' x fs[k].res wr hxr)
      have hf' := Lib.hid hf
      clear hf hxr
      cases he : eqS fs[k].name s
      case true =>
        have hv := Lib.hid (idxP_hit (p := fun f : FunD => eqS f.name s) (fun j f hj hf => hne.out j f hj hf) hf'.out he)
        rw [he] at hcl
        generalize fs[k] = f at *
        clear he
        go_wp2_with fail
        refine hcl.out.mono ?_; rintro e w1 ⟨rfl, hb⟩
        have hb' := Lib.hid (hB.out.trans (hb.mono hB.out.size))
        clear hb
        go_wp2
        go_ret
        exact ⟨ret_int hv.out.symm, hb'.out⟩
      case false =>
        have hs := @Lib.hid (∀ j f, j < k + 1 → fs[j]? = some f → eqS f.name s = false) (fun j f hj hf => by
          by_cases hjk : j < k
          · exact hne.out j f hjk hf
          · obtain rfl : j = k := by omega
            rw [hf'.out] at hf
            cases hf
            exact he)
        rw [he] at hcl
        generalize fs[k] = f at *
        clear he
        go_wp2_with fail
        refine hcl.out.mono ?_; rintro e w1 ⟨rfl, hb⟩
        have hb' := Lib.hid (hB.out.trans (hb.mono hB.out.size))
        clear hb
        go_wp2
        go_roundw
        case rel => exact ⟨k + 1, by omega, by go_num, hs.out, hb'.out⟩
        case measure => simp [intOf]; omega
    · have hv := Lib.hid (idxP_miss (p := fun f : FunD => eqS f.name s) (xs := fs) (fun j f hj hf => hne.out j f (by have := lx.out; omega) hf))
      go_wp2
      go_ret
      exact ⟨ret_int hv.out.symm, hB.out⟩
end Go.Proofs.YtpkajhmgkmkcgaaDoor
