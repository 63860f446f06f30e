/-
  sorts: Fun. Conditions: a table in memory of fewer than 2^40 entries, each function of fewer than 2^40 sorts; the library's table of spaces is as its text lays it.
-/
import Derived.Test.YtpkajhmgkmkcgaaDoorSF
namespace Go.Proofs.YtpkajhmgkmkcgaaDoor
open Go.RowKit Go.Sort Go.Lib
variable {X : Nat → Prop}

def argBad (n : Nat) (s : Int) : Bool := s == 0 || !isB n s
def errFun (T : TabD) (f : FunD) : Int :=
  if !mayFunB T f.name then 1 else if decide (64 < f.args.length) then 1 else if !isB T.sorts.length f.res then 1 else if f.args.any (argBad T.sorts.length) then 1 else if decide (1000 ≤ T.funs.length) then 4 else 0
def addFun (T : TabD) (f : FunD) : TabD := if errFun T f = 0 then { T with funs := T.funs ++ [f] } else T
def FunPost (X : Nat → Prop) (B p : Nat) (T : TabD) (f : FunD) (w : World) (e : Ending) (w' : World) : Prop :=
  e = .returned (.int .i64 (errFun T f)) ∧ TabX X B p (addFun T f) w' ∧ PStep p w w'
theorem FunPost.no {B p : Nat} {T : TabD} {f : FunD} {w w' : World} {z : Int} (h : TabX X B p T w) (hb : Below w.heap.size w w') (hz : errFun T f = z) (h0 : z ≠ 0) : FunPost X B p T f w (.returned (.int .i64 z)) w' := by
  refine ⟨by rw [hz], ?_, .of_below h.plt hb⟩
  unfold addFun
  rw [hz, if_neg h0]
  exact h.all hb
theorem OwnR.allI {B : Nat} {w w' : World} {v : Value} {fs : List FunD} (h : OwnR repF (IntX X w) w B 32 v fs) (hb : Below w.heap.size w w') : OwnR repF (IntX X w') w' B 32 v fs :=
  h.keepI (fun k hk => hb.block k hk.lt) (fun k hk => hb.block k (h.lt k hk).2) hb.size
theorem below_drewl {B : Nat} {w w' : World} (h : Below B w.drew w') : Below B w w' := ⟨h.os, h.tape, h.output, h.size, h.block⟩
theorem triple_new (x y z : Value) (w : World) (e : TypeId) : ∀ j u, [x, y, z][j]? = some u → (w.alloc (.cells #[x, y, z] e)).cell? ⟨w.heap.size, j, none⟩ = some u := by
  intro j u hu
  rw [World.cell?_alloc_new]
  simpa using hu
theorem triple_one {s : ByteArray} {a : Option Addr} {n c : Nat} {y : Int} : ∀ u ∈ [Value.string s, .slice a n c, .int .i64 y], u.oneCell' = true := by intro u hu; simp at hu; rcases hu with rfl | rfl | rfl <;> rfl
theorem any_take_no {xs : List Int} {p : Int → Bool} (h : ∀ j, j < xs.length → p (nth xs j) = false) : xs.any p = false := by
  rw [List.any_eq_false]
  intro x hx
  obtain ⟨j, hj, rfl⟩ := List.getElem_of_mem hx
  have := h j hj
  rw [nth_eq hj] at this
  simp [this]
theorem any_at {xs : List Int} {p : Int → Bool} {j : Nat} (hj : j < xs.length) (h : p (nth xs j) = true) : xs.any p = true := List.any_eq_true.2 ⟨_, nth_mem hj, h⟩
set_option maxRecDepth 100000 in
set_option maxHeartbeats 4000000 in
theorem fun_any (B p : Nat) (T : TabD) (f : FunD) (a : Option Addr) (c : Nat) (w : World) (h : TabX X B p T w) (hs : Small T) (hE : Env w) (hx : RdI w a f.args.length f.args) (hn : f.args.length < 1099511627776) :
    Calls Tryd.prog 11 #[.pointer (some ⟨p, 0, none⟩), funV f.name a f.args.length c f.res] w fun e w' => FunPost X B p T f w e w' := by
  have h' := Lib.hid h
  have hs' := Lib.hid hs
  have hx' := Lib.hid hx
  have hd := @Lib.hid (errFun T f = if !mayFunB T f.name then 1 else if decide (64 < f.args.length) then 1 else if !isB T.sorts.length f.res then 1 else if f.args.any (argBad T.sorts.length) then 1 else if decide (1000 ≤ T.funs.length) then 4 else 0) rfl
  have hB0 : Below w.heap.size w (w.alloc (.cells #[.string f.name, .slice a f.args.length c, .int .i64 f.res] 32)) := (Below.refl _ _).alloc (Nat.le_refl _) _
  have hB0' := Lib.hid hB0
  have hm := Lib.hid (mayFun_any B p T f.name _ (h.all hB0) hs (hE.all hB0))
  have hplt := h.plt
  have hsl := hs.s
  have hfl := hs.f
  clear h hs hx hE hB0
  obtain ⟨nm, args, r⟩ := f
  dsimp only at *
  cases hmy : mayFunB T nm
  case false =>
    have hv := @Lib.hid (errFun T ⟨nm, args, r⟩ = 1) (by rw [hd.out, hmy]; rfl)
    rw [hmy] at hm
    clear hmy
    go_enter Tryd.func11, Tryd.ntmps11
    go_wp2_with fail
    refine hm.out.mono ?_; rintro e w1 ⟨rfl, hb⟩
    have hb' := Lib.hid (hB0'.out.trans (hb.mono (by simp)))
    clear hb
    go_wp2
    go_ret
    exact FunPost.no h'.out hb'.out hv.out (by decide)
  case true =>
  rw [hmy] at hm
  by_cases h64 : 64 < args.length
  · have hv := @Lib.hid (errFun T ⟨nm, args, r⟩ = 1) (by rw [hd.out, hmy]; simp [h64])
    clear hmy
    go_enter Tryd.func11, Tryd.ntmps11
    go_wp2_with fail
    refine hm.out.mono ?_; rintro e w1 ⟨rfl, hb⟩
    have hz := hb.size
    simp only [World.size_alloc] at hz
    have H1 := (hb.block w.heap.size (by simp)).trans (heap_alloc_new w _)
    have k0 := cell_p H1 0
    have k1 : w1.cell? ⟨w.heap.size, 1, none⟩ = some (.slice a args.length c) := cell_p H1 1
    have hb' := Lib.hid (hB0'.out.trans (hb.mono (by simp)))
    clear hb H1 k0
    go_wp2
    go_ret
    exact FunPost.no h'.out hb'.out hv.out (by decide)
  cases hir : isB T.sorts.length r
  case false =>
    have hv := @Lib.hid (errFun T ⟨nm, args, r⟩ = 1) (by rw [hd.out, hmy, hir]; simp)
    clear hmy
    go_enter Tryd.func11, Tryd.ntmps11
    go_wp2_with fail
    refine hm.out.mono ?_; rintro e w1 ⟨rfl, hb⟩
    have hz := hb.size
    simp only [World.size_alloc] at hz
    have H1 := (hb.block w.heap.size (by simp)).trans (heap_alloc_new w _)
    have k1 : w1.cell? ⟨w.heap.size, 1, none⟩ = some (.slice a args.length c) := cell_p H1 1
    have k2 : w1.cell? ⟨w.heap.size, 2, none⟩ = some (.int .i64 r) := cell_p H1 2
    have hb' := Lib.hid (hB0'.out.trans (hb.mono (by simp)))
    have his := Lib.hid (is_any B p T r w1 (h'.out.all hb'.out) hsl)
    rw [hir] at his
    clear hb H1 hir
    go_wp2_with fail
    refine his.out.mono ?_; rintro e w' ⟨rfl, rfl⟩
    go_wp2
    go_ret
    exact FunPost.no h'.out hb'.out hv.out (by decide)
  case true =>
  have hd2 := @Lib.hid (errFun T ⟨nm, args, r⟩ = if args.any (argBad T.sorts.length) then 1 else if decide (1000 ≤ T.funs.length) then 4 else 0) (by rw [hd.out, hmy, hir]; simp [h64])
  have hrb : okI r := by unfold isB at hir; simp at hir; unfold okI; omega
  have hrb' := Lib.hid hrb
  clear hmy hd hrb
  obtain ⟨i0, hi, hz0, hz1, hz2⟩ := info_parts info_fun
  go_enter Tryd.func11, Tryd.ntmps11
  go_wp2_with fail
  refine hm.out.mono ?_; rintro e w1 ⟨rfl, hb⟩
  have hz := hb.size
  simp only [World.size_alloc] at hz
  have H1 := (hb.block w.heap.size (by simp)).trans (heap_alloc_new w _)
  have k0 : w1.cell? ⟨w.heap.size, 0, none⟩ = some (.string nm) := cell_p H1 0
  have k1 : w1.cell? ⟨w.heap.size, 1, none⟩ = some (.slice a args.length c) := cell_p H1 1
  have k2 : w1.cell? ⟨w.heap.size, 2, none⟩ = some (.int .i64 r) := cell_p H1 2
  have hb' := Lib.hid (hB0'.out.trans (hb.mono (by simp)))
  have t1 := h'.out.all hb'.out
  have T1 := Lib.hid t1
  have his := Lib.hid (is_any B p T r w1 t1 hsl)
  rw [hir] at his
  have hia := Lib.hid (fun s => is_any B p T s w1 T1.out hsl)
  obtain ⟨a1, c1, a2, c2, a3, c3, hblk, o1, o2, o3⟩ := t1.look
  have q1 : w1.cell? ⟨p, 1, none⟩ = some (.slice a2 T.funs.length c2) := cell_p hblk 1
  have g1 : w1.frozen? ⟨p, 1, none⟩ = false := frz_p hblk 1
  have hblk' := Lib.hid hblk
  have O2 := Lib.hid o2
  have X1 := Lib.hid (hx'.out.below hb'.out (Nat.le_refl _))
  have hp2 := Lib.hid (show Value.ownBlock (.slice a2 T.funs.length c2) ≠ some p from fun e => ty_ne (by decide) (o2.ty p e) ⟨_, _, hblk⟩)
  clear hb H1 hir t1 hblk o1 o2 o3 hm hB0'
  go_wp2_with fail
  refine his.out.mono ?_; rintro e w' ⟨rfl, rfl⟩
  go_wp2
  go_loopw [4, 6, 28] (fun _ _ i wr => ∃ k : Nat, k ≤ args.length ∧ i = .int .i64 k ∧ wr = w1 ∧ Hid (∀ j, j < k → argBad T.sorts.length (nth args j) = false)) (fun _ _ i _ => args.length - (intOf i).toNat)
  case atStart => exact ⟨0, Nat.zero_le _, rfl, rfl, fun j hj => absurd hj (Nat.not_lt_zero _)⟩
  case round =>
    obtain ⟨k, hk, rfl, rfl, hok⟩ := hrel
    by_cases hlt : k < args.length
    · obtain ⟨b, o, rfl, h1⟩ := X1.out.at k hlt
      have hyes := Lib.hid (fun hb => any_at (p := argBad T.sorts.length) hlt hb)
      have hnext := Lib.hid (fun hb : argBad T.sorts.length (nth args k) = false => show ∀ j, j < k + 1 → argBad T.sorts.length (nth args j) = false from fun j hj => by
        by_cases e : j = k
        · subst e; exact hb
        · exact hok.out j (by omega))
      have hab := @Lib.hid (argBad T.sorts.length (nth args k) = (nth args k == 0 || !isB T.sorts.length (nth args k))) rfl
      generalize nth args k = x at *
      by_cases hx0 : x = 0
      · have hv := @Lib.hid (errFun T ⟨nm, args, r⟩ = 1) (by rw [hd2.out, hyes.out (by rw [hab.out, hx0]; rfl)]; rfl)
        subst hx0
        go_wp2
        go_ret
        exact FunPost.no h'.out hb'.out hv.out (by decide)
      have hx0' : (x == 0) = false := by simpa using hx0
      have hia1 := Lib.hid (hia.out x)
      cases hix : isB T.sorts.length x
      case false =>
        have hv := @Lib.hid (errFun T ⟨nm, args, r⟩ = 1) (by rw [hd2.out, hyes.out (by rw [hab.out, hix]; simp)]; rfl)
        rw [hix] at hia1
        clear hix
        go_wp2_with fail
        refine hia1.out.mono ?_; rintro e w' ⟨rfl, rfl⟩
        go_wp2
        go_ret
        exact FunPost.no h'.out hb'.out hv.out (by decide)
      case true =>
        have hv := Lib.hid (hnext.out (by rw [hab.out, hix, hx0']; rfl))
        rw [hix] at hia1
        clear hix
        go_wp2_with fail
        refine hia1.out.mono ?_; rintro e w' ⟨rfl, rfl⟩
        go_wp2
        go_roundw
        case rel => exact ⟨k + 1, by omega, by go_num, by trivial, hv.out⟩
        case measure => simp [intOf]; omega
    · obtain rfl : k = args.length := by omega
      have hno := Lib.hid (any_take_no (fun j hj => hok.out j hj))
      by_cases h1000 : 1000 ≤ T.funs.length
      · have hv := @Lib.hid (errFun T ⟨nm, args, r⟩ = 4) (by rw [hd2.out, hno.out]; simp [h1000])
        go_wp2
        go_ret
        exact FunPost.no h'.out hb'.out hv.out (by decide)
      · have hv := @Lib.hid (errFun T ⟨nm, args, r⟩ = 0) (by rw [hd2.out, hno.out]; simp [h1000])
        have hown := Lib.hid (ownF_any nm a args.length c r args wr.drew X1.out.drew (by omega) T1.out.xlt)
        have hpw := T1.out.plt
        have hBw := Nat.le_trans T1.out.bp (Nat.le_of_lt hpw)
        clear hok hno hd2 his hia
        go_wp2
        go_region_law ((first
          | (refine step_append_C (by rfl) (.tmp 51) (.tmp 54) (by rfl) Tryd.underlying39 hi hz0 hz1 hz2 rfl (by decide) (by rfl) (by rfl) (OC.out.alloc _) (Src.one (b := w2.heap.size) (news := [.string nm, .slice a4 args.length c4, .int .i64 r]) rfl (triple_new _ _ _ w2 _)) triple_one (by unfold maxLen; omega) (by omega) (by simp; omega) ?_
             intro v' w3 ho3 hg3 hl3
             obtain ⟨a', c', rfl, _, _⟩ := ho3.slice
             have G3 := Lib.hid (grown_alloc hg3)
             have L3 := Lib.hid (loc_alloc hl3)
             have O3 := Lib.hid (OwnR.push (R := repF) (S := IntX X w2) (x := ⟨nm, args, r⟩) OL.out OE.out (repF_rd.2 ⟨a4, _, c4, rfl, C4.out, C5.out, S4.out, hrb'.out⟩) ho3 (fun b hlt hb => (grown_alloc hg3).block b hlt (fun e => ty_ne (by decide) (OC.out.ty b e.symm) hb.2)) (grown_alloc hg3).size)
             have q3 := (cell_grown (j := 1) G3.out (Nat.lt_of_lt_of_le hpw hsz2) hp2.out).trans q2
             have g3 := (frozen_grown (j := 1) G3.out (Nat.lt_of_lt_of_le hpw hsz2) hp2.out).trans g2
             clear ho3 hg3 hl3)
          | (go_simp
             go_at_call 38
             refine hown.out.mono ?_
             rintro e w2 ⟨a4, c4, rfl, hs4, hc4, hc5, hb4⟩
             have hb5 := below_drewl hb4
             have B5 := Lib.hid hb5
             have T2 := Lib.hid (T1.out.all hb5)
             have S4 := Lib.hid hs4
             have C4 := Lib.hid hc4
             have C5 := Lib.hid hc5
             obtain ⟨css, oc, ol, oe⟩ := O2.out.allI hb5
             have OC := Lib.hid oc
             have OL := Lib.hid ol
             have OE := Lib.hid oe
             have hsz2 : wr.heap.size ≤ w2.heap.size := hb5.size
             have hpw2 : p < w2.heap.size := Nat.lt_of_lt_of_le hpw hsz2
             have hblk2 := Lib.hid ((hb5.block p hpw).trans hblk'.out)
             have q2 : w2.cell? ⟨p, 1, none⟩ = some (.slice a2 T.funs.length c2) := cell_p hblk2.out 1
             have g2 : w2.frozen? ⟨p, 1, none⟩ = false := frz_p hblk2.out 1
             clear hs4 hc4 hc5 hb4 hb5 oc ol oe
             dsimp only)))
        all_goals
          go_wp2
          go_ret
          have hI : ∀ b, b < w3.heap.size → IntX X w2 b → IntX X w3 b := fun b _ hb => hb.same (G3.out.block b hb.lt (fun e => ty_ne (by decide) (OC.out.ty b e.symm) hb.2))
          obtain ⟨t2, s2⟩ := T2.out.setFuns hblk2.out G3.out L3.out (O3.out.mono hI)
          refine ⟨by rw [hv.out] <;> rfl, ?_, ((PStep.of_below h'.out.plt hb'.out).trans (PStep.of_below T1.out.plt B5.out)).trans s2⟩
          unfold addFun
          rw [hv.out, if_pos rfl]
          exact t2
end Go.Proofs.YtpkajhmgkmkcgaaDoor
