/-
  sorts: Find, MayFun, FindSort, Name. Conditions: a table in memory of fewer than 2^40 entries, each function of fewer than 2^40 sorts.
-/
import Derived.Test.YtpkajhmgkmkcgaaDoorSD
namespace Go.Proofs.YtpkajhmgkmkcgaaDoor
open Go.RowKit Go.Sort Go.Lib
variable {X : Nat → Prop}

def findF (T : TabD) (s : ByteArray) : Option FunD := T.funs.find? fun f => eqS f.name s
def noFun : FunD := ⟨ByteArray.empty, [], 0⟩
def lookF (T : TabD) (s : ByteArray) : FunD := (findF T s).getD noFun
/-- sizes of a table -/
structure Small (T : TabD) : Prop where
  s : T.sorts.length < 1099511627776
  f : T.funs.length < 1099511627776
  m : T.marks.length < 1099511627776
  a : ∀ f ∈ T.funs, f.args.length < 1099511627776
/-- a function's value, told behind a call -/
def TellF (X : Nat → Prop) (f : FunD) (ok : Bool) (w : World) (e : Ending) (w' : World) : Prop :=
  ∃ a c, e = .returned (.tuple #[funV f.name a f.args.length c f.res, .bool ok]) ∧ SlR Rep.int (IntX X w') w' a f.args.length f.args ∧ f.args.length ≤ c ∧ c ≤ maxLen ∧ Below w.heap.size w w'
set_option maxRecDepth 100000 in
set_option maxHeartbeats 2000000 in
theorem find_any (B p : Nat) (T : TabD) (s : ByteArray) (w : World) (h : TabX X B p T w) (hs : Small T) :
    Calls Tryd.prog 12 #[.pointer (some ⟨p, 0, none⟩), .string s] w fun e w' => TellF X (lookF T s) (findF T s).isSome w e w' := by
  have h' := Lib.hid h
  have hs' := Lib.hid hs
  have hplt := h.plt
  have hfl := hs.f
  have hd := @Lib.hid (findF T s = T.funs.find? fun f => eqS f.name s) rfl
  have hB0 : Below w.heap.size w ((w.alloc (.cells #[.string s] 9)).alloc (.cells #[.string ByteArray.empty, .slice none 0 0, .int .i64 0] 32)) := ((Below.refl _ _).alloc (Nat.le_refl _) _).alloc (by simp) _
  have hB0' := Lib.hid hB0
  have h2 := h.all hB0
  have hb1 := (Below.heap_alloc _ (.cells #[.string ByteArray.empty, .slice none 0 0, .int .i64 0] 32) _ (by simp)).trans (heap_alloc_new w (.cells #[.string s] 9))
  have hx : ((w.alloc (.cells #[.string s] 9)).alloc (.cells #[.string ByteArray.empty, .slice none 0 0, .int .i64 0] 32)).cell? ⟨w.heap.size, 0, none⟩ = some (.string s) := cell_p hb1 0
  obtain ⟨a1, c1, a2, c2, a3, c3, hblk, _, o2, _⟩ := h2.look
  have k1 := cell_p hblk 1
  simp only [List.getElem?_toArray, List.getElem?_cons_succ, List.getElem?_cons_zero] at k1
  have hrd := o2.read (S' := fun _ => True) (fun _ _ _ => trivial) (fun _ _ => trivial)
  have hrd' := Lib.hid hrd
  have hi := Lib.hid (indexFunc_any a2 T.funs.length c2 w.heap.size T.funs s _ hrd hfl hx)
  have hkw : w.cell? ⟨p, 1, none⟩ = some (.slice a2 T.funs.length c2) := by rw [← hB0.cell (p := ⟨p, 1, none⟩) hplt]; exact k1
  clear h h2 hB0 hb1 hx hblk o2 hrd k1
  have hidx := idxP_find (p := fun f : FunD => eqS f.name s) T.funs 0
  rw [← hd.out] at hidx
  cases hf : findF T s with
  | none =>
    rw [hf] at hidx
    dsimp only at hidx
    rw [hidx] at hi
    have hl := @Lib.hid (lookF T s = noFun) (by unfold lookF; rw [hf]; rfl)
    clear hidx hf hd
    go_enter Tryd.func12, Tryd.ntmps12
    go_wp2_with fail
    refine hi.out.mono ?_; rintro e w1 ⟨rfl, hb⟩
    have hz := hb.size
    simp only [World.size_alloc] at hz
    have H2 := (hb.block (w.heap.size + 1) (by simp)).trans (heap2b w _ _)
    have k20 : w1.cell? ⟨w.heap.size + 1, 0, none⟩ = some (.string ByteArray.empty) := cell_p H2 0
    have k21 : w1.cell? ⟨w.heap.size + 1, 1, none⟩ = some (.slice none 0 0) := cell_p H2 1
    have k22 : w1.cell? ⟨w.heap.size + 1, 2, none⟩ = some (.int .i64 0) := cell_p H2 2
    have f20 := frz_p H2 0
    have f21 := frz_p H2 1
    have f22 := frz_p H2 2
    have hb' := Lib.hid (hB0'.out.trans (hb.mono (by simp; omega)))
    clear hb H2 hi
    go_wp2
    refine bodyPost_ret (v := .tuple #[funV ⟨#[]⟩ none 0 0 0, .bool false]) (by simp [results, Tryd.results12, go_sem, *]) rfl ?_
    refine ⟨none, 0, by rw [hl.out]; rfl, by rw [hl.out]; exact SlR.nil _ _ _ _, by rw [hl.out]; exact Nat.le_refl _, Nat.zero_le _, ?_⟩
    exact ((hb'.out.setCell (by simp) _).setCell (by simp) _).setCell (by simp) _
  | some f =>
    rw [hf] at hidx
    dsimp only at hidx
    obtain ⟨k, hk1, hk2⟩ := hidx
    rw [Nat.zero_add] at hk1
    rw [hk1] at hi
    have hkl := (List.getElem?_eq_some_iff.1 hk2).1
    have hl := @Lib.hid (lookF T s = f) (by unfold lookF; rw [hf]; rfl)
    have hfa := hs'.out.a f (List.mem_of_getElem? hk2)
    have hk2' := Lib.hid hk2
    clear hk1 hf hd hk2
    go_enter Tryd.func12, Tryd.ntmps12
    go_wp2_with fail
    refine hi.out.mono ?_; rintro e w1 ⟨rfl, hb⟩
    have hz := hb.size
    simp only [World.size_alloc] at hz
    have H2 := (hb.block (w.heap.size + 1) (by simp)).trans (heap2b w _ _)
    have H2' := Lib.hid H2
    have hb0 := hB0'.out.trans (hb.mono (by simp; omega))
    have hb' := Lib.hid hb0
    have kp : w1.cell? ⟨p, 1, none⟩ = some (.slice a2 T.funs.length c2) := by rw [hb0.cell (p := ⟨p, 1, none⟩) hplt]; exact hkw
    obtain ⟨b, o, a', c', rfl, q0, q1, q2, q3, _⟩ := (hrd'.out.below hb (Nat.le_refl _)).funAt hk2'.out
    have hown := Lib.hid (ownF_any f.name a' f.args.length c' f.res f.args w1 q3.toI (by omega) (fun k hk => Nat.lt_of_lt_of_le (h'.out.xlt k hk) hb0.size))
    clear hb hi hb0 q3 H2 hkw
    go_wp2_with fail
    refine hown.out.mono ?_
    rintro e w2 ⟨a4, c4, rfl, hs4, hc4, hc5, hb4⟩
    have H3 := (hb4.block (w.heap.size + 1) (by omega)).trans H2'.out
    have k20 : w2.cell? ⟨w.heap.size + 1, 0, none⟩ = some (.string ByteArray.empty) := cell_p H3 0
    have k21 : w2.cell? ⟨w.heap.size + 1, 1, none⟩ = some (.slice none 0 0) := cell_p H3 1
    have k22 : w2.cell? ⟨w.heap.size + 1, 2, none⟩ = some (.int .i64 0) := cell_p H3 2
    have f20 := frz_p H3 0
    have f21 := frz_p H3 1
    have f22 := frz_p H3 2
    have hN := Lib.hid (show ¬ IntX X w2 (w.heap.size + 1) from fun h => ty_ne (by decide) h.2 ⟨_, _, H3⟩)
    have hs4' := Lib.hid hs4
    have hc4' := Lib.hid hc4
    have hc5' := Lib.hid hc5
    have hb4' := Lib.hid (hb'.out.trans (hb4.mono hb'.out.size))
    clear hb4 H3 hs4 hc4 hc5 kp q0 q1 q2 hown
    go_wp2
    refine bodyPost_ret (v := .tuple #[funV f.name a4 f.args.length c4 f.res, .bool true]) (by simp [results, Tryd.results12, go_sem, *]) rfl ?_
    refine ⟨a4, c4, by rw [hl.out]; rfl, by rw [hl.out]; exact ((hs4'.out.intSet hN.out).intSet (fun h => hN.out (intB_set.1 h))).intSet (fun h => hN.out (intB_set.1 (intB_set.1 h))), by rw [hl.out]; exact hc4'.out, hc5'.out, ?_⟩
    exact ((hb4'.out.setCell (by simp) _).setCell (by simp) _).setCell (by simp) _

def mayFunB (T : TabD) (s : ByteArray) : Bool := mayB s && !(findF T s).isSome
set_option maxRecDepth 100000 in
set_option maxHeartbeats 1000000 in
theorem mayFun_any (B p : Nat) (T : TabD) (s : ByteArray) (w : World) (h : TabX X B p T w) (hs : Small T) (hE : Env w) :
    Calls Tryd.prog 36 #[.pointer (some ⟨p, 0, none⟩), .string s] w fun e w' => e = .returned (.bool (mayFunB T s)) ∧ Below w.heap.size w w' := by
  have hc := Lib.hid (find_any B p T s w h hs)
  have hd := @Lib.hid (mayFunB T s = (mayB s && !(findF T s).isSome)) rfl
  have hE' := Lib.hid hE
  generalize lookF T s = f at *
  generalize (findF T s).isSome = ok at *
  clear h hs hE
  go_enter Tryd.func36, Tryd.ntmps36
  go_wp2_with fail
  refine hc.out.mono ?_
  rintro e w1 ⟨a, c, rfl, _, _, _, hb⟩
  have hb' := Lib.hid hb
  have hB1 := hb.trans (((Below.refl w1.heap.size w1).alloc (Nat.le_refl _) (.cells #[.string f.name, .slice a f.args.length c, .int .i64 f.res] 32)).mono hb.size)
  have hE1 := Lib.hid (hE'.out.all hB1)
  have hB1' := Lib.hid hB1
  clear hb hB1
  have hm := Lib.hid (may_any s _ hE1.out)
  cases hmy : mayB s
  case false =>
    have hv := @Lib.hid (false = mayFunB T s) (by rw [hd.out, hmy]; rfl)
    rw [hmy] at hm
    clear hmy
    go_wp2_with fail
    refine hm.out.mono ?_; rintro e w2 ⟨rfl, hb2⟩
    have hb2' := Lib.hid (hB1'.out.trans (hb2.mono hB1'.out.size))
    clear hb2
    go_wp2
    go_ret
    exact ⟨ret_bool hv.out, hb2'.out⟩
  case true =>
    have hv := @Lib.hid ((!ok) = mayFunB T s) (by rw [hd.out, hmy]; rfl)
    rw [hmy] at hm
    clear hmy
    go_wp2_with fail
    refine hm.out.mono ?_; rintro e w2 ⟨rfl, hb2⟩
    have hb2' := Lib.hid (hB1'.out.trans (hb2.mono hB1'.out.size))
    clear hb2
    go_wp2
    go_ret
    exact ⟨ret_bool hv.out, hb2'.out⟩

def findSort (T : TabD) (s : ByteArray) : Int × Bool :=
  if s.toList == [66, 111, 111, 108] then (0, true) else if s.toList == [82, 101, 97, 108] then (1, true) else if Lib.idxOfS T.sorts s < 0 then (0, false) else (2 + Lib.idxOfS T.sorts s, true)
theorem idxFromS_bd (x : ByteArray) : ∀ (zs : List ByteArray) (i : Nat), -1 ≤ Lib.idxFromS zs x i ∧ Lib.idxFromS zs x i < i + zs.length + 1
  | [], i => by unfold Lib.idxFromS; simp; omega
  | z :: zs, i => by
    unfold Lib.idxFromS
    split
    · simp; omega
    · have := idxFromS_bd x zs (i + 1)
      simp at *; omega
set_option maxHeartbeats 400000 in
theorem findSort_any (B p : Nat) (T : TabD) (s : ByteArray) (w : World) (h : TabX X B p T w) (hl : T.sorts.length < 1099511627776) :
    Calls Tryd.prog 25 #[.pointer (some ⟨p, 0, none⟩), .string s] w fun e w' => e = .returned (.tuple #[.int .i64 (findSort T s).1, .bool (findSort T s).2]) ∧ w = w' := by
  obtain ⟨a1, c1, a2, c2, a3, c3, hb, o1, _⟩ := h.look
  have k0 : w.cell? ⟨p, 0, none⟩ = some (.slice a1 T.sorts.length c1) := cell_p hb 0
  have hrd := o1.read (S' := fun _ => True) (fun _ _ _ => trivial) (fun _ _ => trivial)
  have hix := Lib.hid (indexS_any a1 T.sorts.length c1 T.sorts s w hrd (by omega))
  have hbd := idxFromS_bd s T.sorts 0
  have hd := @Lib.hid (findSort T s = if s.toList == [66, 111, 111, 108] then (0, true) else if s.toList == [82, 101, 97, 108] then (1, true) else if Lib.idxOfS T.sorts s < 0 then (0, false) else (2 + Lib.idxOfS T.sorts s, true)) rfl
  change -1 ≤ Lib.idxOfS T.sorts s ∧ Lib.idxOfS T.sorts s < _ at hbd
  generalize Lib.idxOfS T.sorts s = k at *
  clear hb h o1 hrd
  cases e1 : (s.toList == [66, 111, 111, 108])
  case true =>
    have hv := @Lib.hid (findSort T s = (0, true)) (by rw [hd.out, e1]; rfl)
    go_enter Tryd.func25, Tryd.ntmps25
    go_wp2
    go_ret2
    exact ⟨by rw [hv.out] <;> rfl, rfl⟩
  case false =>
  cases e2 : (s.toList == [82, 101, 97, 108])
  case true =>
    have hv := @Lib.hid (findSort T s = (1, true)) (by rw [hd.out, e1, e2]; rfl)
    go_enter Tryd.func25, Tryd.ntmps25
    go_wp2
    go_ret2
    exact ⟨by rw [hv.out] <;> rfl, rfl⟩
  case false =>
  by_cases hk : k < 0
  · have hv := @Lib.hid (findSort T s = (0, false)) (by rw [hd.out, e1, e2]; simp [hk])
    go_enter Tryd.func25, Tryd.ntmps25
    go_wp2_with fail
    refine hix.out.mono ?_; rintro e w' ⟨rfl, rfl⟩
    go_wp2
    go_ret2
    exact ⟨by rw [hv.out] <;> rfl, rfl⟩
  · have hv := @Lib.hid (findSort T s = (2 + k, true)) (by rw [hd.out, e1, e2]; simp [hk])
    go_enter Tryd.func25, Tryd.ntmps25
    go_wp2_with fail
    refine hix.out.mono ?_; rintro e w' ⟨rfl, rfl⟩
    go_wp2
    go_ret2
    exact ⟨by rw [hv.out] <;> rfl, rfl⟩
def nameOf (T : TabD) (s : Int) : ByteArray × Bool :=
  if !isB T.sorts.length s then (⟨#[]⟩, false) else if s == 0 then (⟨#[66, 111, 111, 108]⟩, true) else if s == 1 then (⟨#[82, 101, 97, 108]⟩, true) else (T.sorts.getD (s.toNat - 2) ByteArray.empty, true)
set_option maxHeartbeats 400000 in
theorem name_any (B p : Nat) (T : TabD) (s : Int) (w : World) (h : TabX X B p T w) (hl : T.sorts.length < 1099511627776) :
    Calls Tryd.prog 27 #[.pointer (some ⟨p, 0, none⟩), .int .i64 s] w fun e w' => e = .returned (.tuple #[.string (nameOf T s).1, .bool (nameOf T s).2]) ∧ w = w' := by
  obtain ⟨a1, c1, a2, c2, a3, c3, hb, o1, _⟩ := h.look
  have k0 : w.cell? ⟨p, 0, none⟩ = some (.slice a1 T.sorts.length c1) := cell_p hb 0
  have hrd := o1.read (S' := fun _ => True) (fun _ _ _ => trivial) (fun _ _ => trivial)
  have his := Lib.hid (is_any B p T s w h hl)
  have hrd' := Lib.hid hrd
  have hd := @Lib.hid (nameOf T s = if !isB T.sorts.length s then (⟨#[]⟩, false) else if s == 0 then (⟨#[66, 111, 111, 108]⟩, true) else if s == 1 then (⟨#[82, 101, 97, 108]⟩, true) else (T.sorts.getD (s.toNat - 2) ByteArray.empty, true)) rfl
  have hdi := @Lib.hid (isB T.sorts.length s = (decide (0 ≤ s) && decide (s < 2 + (T.sorts.length : Int)))) rfl
  clear hb h o1 hrd
  cases hi : isB T.sorts.length s
  case false =>
    have hv := @Lib.hid (nameOf T s = (⟨#[]⟩, false)) (by rw [hd.out, hi]; rfl)
    rw [hi] at his
    clear hi
    go_enter Tryd.func27, Tryd.ntmps27
    go_wp2_with fail
    refine his.out.mono ?_; rintro e w' ⟨rfl, rfl⟩
    go_wp2
    go_ret2
    exact ⟨by rw [hv.out] <;> rfl, rfl⟩
  case true =>
  have hbd : 0 ≤ s ∧ s < 2 + (T.sorts.length : Int) := by have := hdi.out; rw [hi] at this; simpa using this.symm
  by_cases e0 : s = 0
  · have hv := @Lib.hid (nameOf T s = (⟨#[66, 111, 111, 108]⟩, true)) (by rw [hd.out, hi, e0]; rfl)
    rw [hi] at his
    clear hi hdi hd
    subst e0
    go_enter Tryd.func27, Tryd.ntmps27
    go_wp2_with fail
    refine his.out.mono ?_; rintro e w' ⟨rfl, rfl⟩
    go_wp2
    go_ret2
    exact ⟨by rw [hv.out] <;> rfl, rfl⟩
  by_cases e1 : s = 1
  · have hv := @Lib.hid (nameOf T s = (⟨#[82, 101, 97, 108]⟩, true)) (by rw [hd.out, hi, e1]; rfl)
    rw [hi] at his
    clear hi hdi hd
    subst e1
    go_enter Tryd.func27, Tryd.ntmps27
    go_wp2_with fail
    refine his.out.mono ?_; rintro e w' ⟨rfl, rfl⟩
    go_wp2
    go_ret2
    exact ⟨by rw [hv.out] <;> rfl, rfl⟩
  have b0 : (s == 0) = false := by simpa using e0
  have b1 : (s == 1) = false := by simpa using e1
  have hv := @Lib.hid (nameOf T s = (T.sorts.getD (s.toNat - 2) ByteArray.empty, true)) (by rw [hd.out, hi, b0, b1]; rfl)
  rw [hi] at his
  obtain ⟨b, o, rfl, hc⟩ := hrd'.out.strs (by omega)
  have k1 : w.cell? ⟨b, o + (s - 2).toNat, none⟩ = some (.string (T.sorts.getD (s.toNat - 2) ByteArray.empty)) := by rw [show (s - 2).toNat = s.toNat - 2 by omega]; exact hc (s.toNat - 2) (by omega)
  have g1 : 0 ≤ s - 2 := by omega
  have g3 : 2 ≤ s := by omega
  have g2 : s - 2 < (T.sorts.length : Int) := by omega
  clear hi hdi hd hc e0 e1
  go_enter Tryd.func27, Tryd.ntmps27
  go_wp2_with fail
  refine his.out.mono ?_; rintro e w' ⟨rfl, rfl⟩
  go_wp2
  go_ret2
  exact ⟨by rw [hv.out] <;> rfl, rfl⟩
end Go.Proofs.YtpkajhmgkmkcgaaDoor
