/-
  theodoliteref6.Sorts: Fun. Conditions: a table in memory of fewer than 2^40 entries, each function of fewer than 2^40 sorts.
-/
import Derived.Test.YtpkajhmgkmkcgaaDoorRE
namespace Go.Proofs.YtpkajhmgkmkcgaaDoor
open Go.RowKit Go.Sort Go.Lib
variable {X : Nat → Prop}

theorem int_one {xs : List Int} : ∀ u ∈ xs.map (Value.int .i64), u.oneCell' = true := by
  intro u hu
  obtain ⟨x, _, rfl⟩ := List.mem_map.1 hu
  rfl
theorem OwnC.carry {w W : World} {base size n : Nat} {e : TypeId} {v : Value} {xs : List Value} {row : Option Nat} (h : OwnC w base e size v n xs) (hg : w.grownBy W row) (hr : ∀ k, v.ownBlock = some k → row ≠ some k) : OwnC W base e size v n xs :=
  h.same fun k hk => hg.block k (h.lt k hk).2 (Ne.symm (hr k hk))
theorem own_intC {w : World} {base n : Nat} {a : Option Addr} {m c : Nat} {xs : List Int} (h : OwnC w base 3 1 (.slice a m c) n (xs.map (Value.int .i64))) (hwf : WfI xs) (hX : ∀ k, X k → k < base) : SlR Rep.int (IntX X w) w a n xs := by
  obtain ⟨_, h2, _⟩ := h.rdI hwf
  refine SlR.ofI h2 fun x hn hx => ?_
  subst hx
  exact ⟨fun hxx => by have := hX _ hxx; have := (h.lt _ rfl).1; omega, h.ty _ rfl⟩
def RFunPost (X : Nat → Prop) (B p : Nat) (T : TabD) (f : FunD) (w : World) (e : Ending) (w' : World) : Prop :=
  e = .returned (.int .i64 (errFun T f)) ∧ RefX X B p (addFun T f) w' ∧ PStep p w w'
theorem RFunPost.no {B p : Nat} {T : TabD} {f : FunD} {w w' : World} {z : Int} (h : RefX X B p T w) (hb : Below w.heap.size w w') (hz : errFun T f = z) (h0 : z ≠ 0) : RFunPost X B p T f w (.returned (.int .i64 z)) w' := by
  refine ⟨by rw [hz], ?_, .of_below h.plt hb⟩
  unfold addFun
  rw [hz, if_neg h0]
  exact h.all hb
theorem rfunDone {B p : Nat} {T : TabD} {nm : ByteArray} {args : List Int} {r : Int} {w wr W : World} {a1 a2 a3 a7 a8 : Option Addr} {c1 c2 c3 c7 c8 : Nat} {css : List (List Value)} {n8 : Nat} {xs8 : List Value} (h : RefX X B p T wr)
    (hb : wr.heap[p]? = some (.cells #[.slice a1 T.sorts.length c1, .slice a2 T.funs.length c2, .slice a3 T.marks.length c3] 49 (0, 0)))
    (hB : Below wr.heap.size wr W) (hp : Pairs repF (IntX X wr) wr T.funs css) (hx8 : xs8 = css.flatten ++ [Value.string nm, .slice a7 args.length c7, .int .i64 r] ∧ n8 = T.funs.length + 1)
    (ho : OwnC W wr.heap.size 32 3 (.slice a8 n8 c8) n8 xs8) (hi : OwnC W wr.heap.size 3 1 (.slice a7 args.length c7) args.length (args.map (Value.int .i64)))
    (hwf : WfI args) (hr : okI r) (h7 : args.length ≤ c7) (h72 : c7 ≤ maxLen) (hv : errFun T ⟨nm, args, r⟩ = 0) (hps : PStep p w wr) : RFunPost X B p T ⟨nm, args, r⟩ w (.returned (.int .i64 0)) (W.setCell ⟨p, 1, none⟩ (.slice a8 n8 c8)) := by
  obtain ⟨rfl, rfl⟩ := hx8
  have hrd := (repF_rd (f := ⟨nm, args, r⟩)).2 ⟨a7, _, c7, rfl, h7, h72, own_intC hi hwf h.xlt, hr⟩
  have hpp : Pairs repF (IntX X W) W (T.funs ++ [⟨nm, args, r⟩]) (css ++ [[.string nm, .slice a7 args.length c7, .int .i64 r]]) := by
    refine Pairs.append ⟨hp.1, fun j x hx => ?_⟩ (Pairs.one hrd)
    obtain ⟨cs, e1, e2⟩ := (hp.below hB).2 j x hx
    exact ⟨cs, e1, repF.mono e2 fun b _ hb => hb.same (hB.block b hb.lt)⟩
  have hO := hpp.own (by rw [List.flatten_append, List.flatten_singleton]; exact ho.lower (Nat.le_trans h.bp (Nat.le_of_lt h.plt))) (by simp)
  obtain ⟨t1, s1⟩ := h.setFuns hb (below_grown hB) (.inr fun k hk => (ho.lt k hk).1) hO
  refine ⟨by rw [hv], ?_, hps.trans s1⟩
  unfold addFun
  rw [hv, if_pos rfl]
  exact t1
set_option maxRecDepth 100000 in
set_option maxHeartbeats 4000000 in
theorem rfun_any (B p : Nat) (T : TabD) (f : FunD) (a : Option Addr) (c : Nat) (w : World) (h : RefX X B p T w) (hs : Small T) (hx : RdI w a f.args.length f.args) (hn : f.args.length < 1099511627776) (hcn : f.args.length ≤ c) :
    Calls Tryd.prog 18 #[.pointer (some ⟨p, 0, none⟩), funV f.name a f.args.length c f.res] w fun e w' => RFunPost X B p T f w e w' := by
  have h' := Lib.hid h
  have hx' := Lib.hid hx
  have hd := @Lib.hid (errFun T f = if !mayFunB T f.name then 1 else if decide (64 < f.args.length) then 1 else if !isB T.sorts.length f.res then 1 else if f.args.any (argBad T.sorts.length) then 1 else if decide (1000 ≤ T.funs.length) then 4 else 0) rfl
  have hdm := @Lib.hid (mayFunB T f.name = (mayB f.name && !(findF T f.name).isSome)) rfl
  have hB0 : Below w.heap.size w (w.alloc (.cells #[.string f.name, .slice a f.args.length c, .int .i64 f.res] 32)) := (Below.refl _ _).alloc (Nat.le_refl _) _
  have hB0' := Lib.hid hB0
  have hfd := Lib.hid (rfind_any B p T f.name _ (h.all hB0) hs)
  have hplt := h.plt
  have hsl := hs.s
  have hfl := hs.f
  clear h hs hx hB0
  generalize lookF T f.name = ff at *
  generalize hfo : (findF T f.name).isSome = fo at *
  obtain ⟨nm, args, r⟩ := f
  dsimp only at *
  have hnm := Lib.hid (fun w => rname_any nm w)
  cases hmy : mayB nm
  case false =>
    have hv := @Lib.hid (errFun T ⟨nm, args, r⟩ = 1) (by rw [hd.out, hdm.out, hmy]; rfl)
    rw [hmy] at hnm
    clear hmy hd hdm
    go_enter Tryd.func18, Tryd.ntmps18
    go_wp2_with fail
    refine hfd.out.mono ?_
    rintro e w1 ⟨af, cf, rfl, _, _, _, hb1⟩
    have b01 := hB0'.out.trans (hb1.mono (by simp))
    have bL := b01.alloc b01.size (.cells #[.string ff.name, .slice af ff.args.length cf, .int .i64 ff.res] 32)
    have H0 := (Below.heap_alloc w1 (.cells #[.string ff.name, .slice af ff.args.length cf, .int .i64 ff.res] 32) w.heap.size (by have := hb1.size; simp at this; omega)).trans ((hb1.block w.heap.size (by simp)).trans (heap_alloc_new w _))
    have bL' := Lib.hid bL
    have H0' := Lib.hid H0
    have hlt0 := (Array.getElem?_eq_some_iff.1 H0).1
    have k00 : (w1.alloc (.cells #[.string ff.name, .slice af ff.args.length cf, .int .i64 ff.res] 32)).cell? ⟨w.heap.size, 0, none⟩ = some (.string nm) := cell_p H0 0
    have k01 : (w1.alloc (.cells #[.string ff.name, .slice af ff.args.length cf, .int .i64 ff.res] 32)).cell? ⟨w.heap.size, 1, none⟩ = some (.slice a args.length c) := cell_p H0 1
    have k02 : (w1.alloc (.cells #[.string ff.name, .slice af ff.args.length cf, .int .i64 ff.res] 32)).cell? ⟨w.heap.size, 2, none⟩ = some (.int .i64 r) := cell_p H0 2
    clear b01 bL H0 hb1
    go_wp2_with fail
    refine (hnm.out _).mono ?_
    rintro e w2 ⟨rfl, hb2⟩
    have B2 := Lib.hid (bL'.out.trans (hb2.mono bL'.out.size))
    have H2 := (hb2.block w.heap.size hlt0).trans H0'.out
    have k0 : w2.cell? ⟨w.heap.size, 0, none⟩ = some (.string nm) := cell_p H2 0
    have k1 : w2.cell? ⟨w.heap.size, 1, none⟩ = some (.slice a args.length c) := cell_p H2 1
    have k2 : w2.cell? ⟨w.heap.size, 2, none⟩ = some (.int .i64 r) := cell_p H2 2
    have R2 := Lib.hid (h'.out.all B2.out)
    clear hb2 H2 hlt0 k00 k01 k02
    go_wp2
    go_ret
    exact RFunPost.no h'.out B2.out hv.out (by decide)
  case true =>
  rw [hmy] at hnm hdm
  cases fo
  case true =>
    have hv := @Lib.hid (errFun T ⟨nm, args, r⟩ = 1) (by rw [hd.out, hdm.out]; rfl)
    clear hmy hd hdm
    go_enter Tryd.func18, Tryd.ntmps18
    go_wp2_with fail
    refine hfd.out.mono ?_
    rintro e w1 ⟨af, cf, rfl, _, _, _, hb1⟩
    have b01 := hB0'.out.trans (hb1.mono (by simp))
    have bL := b01.alloc b01.size (.cells #[.string ff.name, .slice af ff.args.length cf, .int .i64 ff.res] 32)
    have H0 := (Below.heap_alloc w1 (.cells #[.string ff.name, .slice af ff.args.length cf, .int .i64 ff.res] 32) w.heap.size (by have := hb1.size; simp at this; omega)).trans ((hb1.block w.heap.size (by simp)).trans (heap_alloc_new w _))
    have bL' := Lib.hid bL
    have H0' := Lib.hid H0
    have hlt0 := (Array.getElem?_eq_some_iff.1 H0).1
    have k00 : (w1.alloc (.cells #[.string ff.name, .slice af ff.args.length cf, .int .i64 ff.res] 32)).cell? ⟨w.heap.size, 0, none⟩ = some (.string nm) := cell_p H0 0
    have k01 : (w1.alloc (.cells #[.string ff.name, .slice af ff.args.length cf, .int .i64 ff.res] 32)).cell? ⟨w.heap.size, 1, none⟩ = some (.slice a args.length c) := cell_p H0 1
    have k02 : (w1.alloc (.cells #[.string ff.name, .slice af ff.args.length cf, .int .i64 ff.res] 32)).cell? ⟨w.heap.size, 2, none⟩ = some (.int .i64 r) := cell_p H0 2
    clear b01 bL H0 hb1
    go_wp2_with fail
    refine (hnm.out _).mono ?_
    rintro e w2 ⟨rfl, hb2⟩
    have B2 := Lib.hid (bL'.out.trans (hb2.mono bL'.out.size))
    have H2 := (hb2.block w.heap.size hlt0).trans H0'.out
    have k0 : w2.cell? ⟨w.heap.size, 0, none⟩ = some (.string nm) := cell_p H2 0
    have k1 : w2.cell? ⟨w.heap.size, 1, none⟩ = some (.slice a args.length c) := cell_p H2 1
    have k2 : w2.cell? ⟨w.heap.size, 2, none⟩ = some (.int .i64 r) := cell_p H2 2
    have R2 := Lib.hid (h'.out.all B2.out)
    clear hb2 H2 hlt0 k00 k01 k02
    go_wp2
    go_ret
    exact RFunPost.no h'.out B2.out hv.out (by decide)
  case false =>
  by_cases h64 : 64 < args.length
  · have hv := @Lib.hid (errFun T ⟨nm, args, r⟩ = 1) (by rw [hd.out, hdm.out]; simp [h64])
    clear hmy hd hdm
    go_enter Tryd.func18, Tryd.ntmps18
    go_wp2_with fail
    refine hfd.out.mono ?_
    rintro e w1 ⟨af, cf, rfl, _, _, _, hb1⟩
    have b01 := hB0'.out.trans (hb1.mono (by simp))
    have bL := b01.alloc b01.size (.cells #[.string ff.name, .slice af ff.args.length cf, .int .i64 ff.res] 32)
    have H0 := (Below.heap_alloc w1 (.cells #[.string ff.name, .slice af ff.args.length cf, .int .i64 ff.res] 32) w.heap.size (by have := hb1.size; simp at this; omega)).trans ((hb1.block w.heap.size (by simp)).trans (heap_alloc_new w _))
    have bL' := Lib.hid bL
    have H0' := Lib.hid H0
    have hlt0 := (Array.getElem?_eq_some_iff.1 H0).1
    have k00 : (w1.alloc (.cells #[.string ff.name, .slice af ff.args.length cf, .int .i64 ff.res] 32)).cell? ⟨w.heap.size, 0, none⟩ = some (.string nm) := cell_p H0 0
    have k01 : (w1.alloc (.cells #[.string ff.name, .slice af ff.args.length cf, .int .i64 ff.res] 32)).cell? ⟨w.heap.size, 1, none⟩ = some (.slice a args.length c) := cell_p H0 1
    have k02 : (w1.alloc (.cells #[.string ff.name, .slice af ff.args.length cf, .int .i64 ff.res] 32)).cell? ⟨w.heap.size, 2, none⟩ = some (.int .i64 r) := cell_p H0 2
    clear b01 bL H0 hb1
    go_wp2_with fail
    refine (hnm.out _).mono ?_
    rintro e w2 ⟨rfl, hb2⟩
    have B2 := Lib.hid (bL'.out.trans (hb2.mono bL'.out.size))
    have H2 := (hb2.block w.heap.size hlt0).trans H0'.out
    have k0 : w2.cell? ⟨w.heap.size, 0, none⟩ = some (.string nm) := cell_p H2 0
    have k1 : w2.cell? ⟨w.heap.size, 1, none⟩ = some (.slice a args.length c) := cell_p H2 1
    have k2 : w2.cell? ⟨w.heap.size, 2, none⟩ = some (.int .i64 r) := cell_p H2 2
    have R2 := Lib.hid (h'.out.all B2.out)
    clear hb2 H2 hlt0 k00 k01 k02
    go_wp2
    go_ret
    exact RFunPost.no h'.out B2.out hv.out (by decide)
  cases hir : isB T.sorts.length r
  case false =>
    have hv := @Lib.hid (errFun T ⟨nm, args, r⟩ = 1) (by rw [hd.out, hdm.out, hir]; simp)
    clear hmy hd hdm
    go_enter Tryd.func18, Tryd.ntmps18
    go_wp2_with fail
    refine hfd.out.mono ?_
    rintro e w1 ⟨af, cf, rfl, _, _, _, hb1⟩
    have b01 := hB0'.out.trans (hb1.mono (by simp))
    have bL := b01.alloc b01.size (.cells #[.string ff.name, .slice af ff.args.length cf, .int .i64 ff.res] 32)
    have H0 := (Below.heap_alloc w1 (.cells #[.string ff.name, .slice af ff.args.length cf, .int .i64 ff.res] 32) w.heap.size (by have := hb1.size; simp at this; omega)).trans ((hb1.block w.heap.size (by simp)).trans (heap_alloc_new w _))
    have bL' := Lib.hid bL
    have H0' := Lib.hid H0
    have hlt0 := (Array.getElem?_eq_some_iff.1 H0).1
    have k00 : (w1.alloc (.cells #[.string ff.name, .slice af ff.args.length cf, .int .i64 ff.res] 32)).cell? ⟨w.heap.size, 0, none⟩ = some (.string nm) := cell_p H0 0
    have k01 : (w1.alloc (.cells #[.string ff.name, .slice af ff.args.length cf, .int .i64 ff.res] 32)).cell? ⟨w.heap.size, 1, none⟩ = some (.slice a args.length c) := cell_p H0 1
    have k02 : (w1.alloc (.cells #[.string ff.name, .slice af ff.args.length cf, .int .i64 ff.res] 32)).cell? ⟨w.heap.size, 2, none⟩ = some (.int .i64 r) := cell_p H0 2
    clear b01 bL H0 hb1
    go_wp2_with fail
    refine (hnm.out _).mono ?_
    rintro e w2 ⟨rfl, hb2⟩
    have B2 := Lib.hid (bL'.out.trans (hb2.mono bL'.out.size))
    have H2 := (hb2.block w.heap.size hlt0).trans H0'.out
    have k0 : w2.cell? ⟨w.heap.size, 0, none⟩ = some (.string nm) := cell_p H2 0
    have k1 : w2.cell? ⟨w.heap.size, 1, none⟩ = some (.slice a args.length c) := cell_p H2 1
    have k2 : w2.cell? ⟨w.heap.size, 2, none⟩ = some (.int .i64 r) := cell_p H2 2
    have R2 := Lib.hid (h'.out.all B2.out)
    clear hb2 H2 hlt0 k00 k01 k02
    have his := Lib.hid (ris_any B p T r w2 R2.out hsl)
    rw [hir] at his
    clear hir
    go_wp2_with fail
    refine his.out.mono ?_; rintro e w' ⟨rfl, rfl⟩
    go_wp2
    go_ret
    exact RFunPost.no h'.out B2.out hv.out (by decide)
  case true =>
  have hd2 := @Lib.hid (errFun T ⟨nm, args, r⟩ = if args.any (argBad T.sorts.length) then 1 else if decide (1000 ≤ T.funs.length) then 4 else 0) (by rw [hd.out, hdm.out, hir]; simp [h64])
  have hrb : okI r := by unfold isB at hir; simp at hir; unfold okI; omega
  have hrb' := Lib.hid hrb
  clear hmy hd hdm hrb
  obtain ⟨i0, hi, hz0, hz1, hz2⟩ := info_parts info_fun
  obtain ⟨j0, hj, hy0, hy1, hy2⟩ := info_parts info_int
  go_enter Tryd.func18, Tryd.ntmps18
  go_wp2_with fail
  refine hfd.out.mono ?_
  rintro e w1 ⟨af, cf, rfl, _, _, _, hb1⟩
  have b01 := hB0'.out.trans (hb1.mono (by simp))
  have bL := b01.alloc b01.size (.cells #[.string ff.name, .slice af ff.args.length cf, .int .i64 ff.res] 32)
  have H0 := (Below.heap_alloc w1 (.cells #[.string ff.name, .slice af ff.args.length cf, .int .i64 ff.res] 32) w.heap.size (by have := hb1.size; simp at this; omega)).trans ((hb1.block w.heap.size (by simp)).trans (heap_alloc_new w _))
  have bL' := Lib.hid bL
  have H0' := Lib.hid H0
  have hlt0 := (Array.getElem?_eq_some_iff.1 H0).1
  have k00 : (w1.alloc (.cells #[.string ff.name, .slice af ff.args.length cf, .int .i64 ff.res] 32)).cell? ⟨w.heap.size, 0, none⟩ = some (.string nm) := cell_p H0 0
  have k01 : (w1.alloc (.cells #[.string ff.name, .slice af ff.args.length cf, .int .i64 ff.res] 32)).cell? ⟨w.heap.size, 1, none⟩ = some (.slice a args.length c) := cell_p H0 1
  have k02 : (w1.alloc (.cells #[.string ff.name, .slice af ff.args.length cf, .int .i64 ff.res] 32)).cell? ⟨w.heap.size, 2, none⟩ = some (.int .i64 r) := cell_p H0 2
  clear b01 bL H0 hb1
  go_wp2_with fail
  refine (hnm.out _).mono ?_
  rintro e w2 ⟨rfl, hb2⟩
  have B2 := Lib.hid (bL'.out.trans (hb2.mono bL'.out.size))
  have H2 := (hb2.block w.heap.size hlt0).trans H0'.out
  have k0 : w2.cell? ⟨w.heap.size, 0, none⟩ = some (.string nm) := cell_p H2 0
  have k1 : w2.cell? ⟨w.heap.size, 1, none⟩ = some (.slice a args.length c) := cell_p H2 1
  have k2 : w2.cell? ⟨w.heap.size, 2, none⟩ = some (.int .i64 r) := cell_p H2 2
  have R2 := Lib.hid (h'.out.all B2.out)
  clear hb2 H2 hlt0 k00 k01 k02
  have his := Lib.hid (ris_any B p T r w2 R2.out hsl)
  rw [hir] at his
  have hia := Lib.hid (fun s => ris_any B p T s w2 R2.out hsl)
  obtain ⟨a1, c1, a2, c2, a3, c3, hblk, o1, o2, o3⟩ := R2.out.look
  have q1 : w2.cell? ⟨p, 1, none⟩ = some (.slice a2 T.funs.length c2) := cell_p hblk 1
  have hblk' := Lib.hid hblk
  have X1 := Lib.hid (hx'.out.below B2.out (Nat.le_refl _))
  have wfX := Lib.hid (show WfI args from hx'.out.wf)
  have sX := Lib.hid (show Src w2 1 a args.length (args.map (Value.int .i64)) by have := (X1.out.srcs (q := args.length) (Nat.le_refl _) hcn).1; rwa [List.take_length] at this)
  have hps := Lib.hid (PStep.of_below hplt B2.out)
  obtain ⟨css, oc, pA0⟩ := o2.pairs
  have hcm := o2.slice
  have sA := Lib.hid (show Src w2 3 a2 T.funs.length css.flatten by
    refine ⟨oc.1, fun h0 => ?_⟩
    obtain ⟨g, cap, hv, _⟩ := oc.form h0
    cases hv
    exact ⟨_, rfl, fun j u hu => by rw [Addr.add_lit, Nat.zero_add]; exact oc.cells (g := g) rfl j u hu⟩)
  have pA := Lib.hid pA0
  have pO := Lib.hid pA0.ones
  clear hir hblk o1 o2 o3 oc pA0 hcm
  go_wp2_with fail
  refine his.out.mono ?_; rintro e w' ⟨rfl, rfl⟩
  go_wp2
  go_loopw [4, 7] (fun _ i wr => ∃ k : Nat, k ≤ args.length ∧ i = .int .i64 k ∧ wr = w2 ∧ Hid (∀ j, j < k → argBad T.sorts.length (nth args j) = false)) (fun _ i _ => args.length - (intOf i).toNat)
  case atStart => exact ⟨0, Nat.zero_le _, rfl, rfl, fun j hj => absurd hj (Nat.not_lt_zero _)⟩
  case round =>
    obtain ⟨k, hk, rfl, rfl, hok⟩ := hrel
    by_cases hlt : k < args.length
    · obtain ⟨b, o, rfl, h1⟩ := X1.out.at k hlt
      have hyes := Lib.hid (fun hb => any_at (p := argBad T.sorts.length) hlt hb)
      have hnext := Lib.hid (fun hb : argBad T.sorts.length (nth args k) = false => show ∀ j, j < k + 1 → argBad T.sorts.length (nth args j) = false from fun j hj => by
        by_cases e : j = k
        · subst e; exact hb
        · exact hok.out j (by omega))
      have hab := @Lib.hid (argBad T.sorts.length (nth args k) = (nth args k == 0 || !isB T.sorts.length (nth args k))) rfl
      generalize nth args k = x at *
      by_cases hx0 : x = 0
      · have hv := @Lib.hid (errFun T ⟨nm, args, r⟩ = 1) (by rw [hd2.out, hyes.out (by rw [hab.out, hx0]; rfl)]; rfl)
        subst hx0
        go_wp2
        go_ret
        exact RFunPost.no h'.out B2.out hv.out (by decide)
      have hx0' : (x == 0) = false := by simpa using hx0
      have hia1 := Lib.hid (hia.out x)
      cases hix : isB T.sorts.length x
      case false =>
        have hv := @Lib.hid (errFun T ⟨nm, args, r⟩ = 1) (by rw [hd2.out, hyes.out (by rw [hab.out, hix]; simp)]; rfl)
        rw [hix] at hia1
        clear hix
        go_wp2_with fail
        refine hia1.out.mono ?_; rintro e w' ⟨rfl, rfl⟩
        go_wp2
        go_ret
        exact RFunPost.no h'.out B2.out hv.out (by decide)
      case true =>
        have hv := Lib.hid (hnext.out (by rw [hab.out, hix, hx0']; rfl))
        rw [hix] at hia1
        clear hix
        go_wp2_with fail
        refine hia1.out.mono ?_; rintro e w' ⟨rfl, rfl⟩
        go_wp2
        go_roundw
        case rel => exact ⟨k + 1, by omega, by go_num, by trivial, hv.out⟩
        case measure => simp [intOf]; omega
    · obtain rfl : k = args.length := by omega
      have hno := Lib.hid (any_take_no (fun j hj => hok.out j hj))
      by_cases h1000 : 1000 ≤ T.funs.length
      · have hv := @Lib.hid (errFun T ⟨nm, args, r⟩ = 4) (by rw [hd2.out, hno.out]; simp [h1000])
        go_wp2
        go_ret
        exact RFunPost.no h'.out B2.out hv.out (by decide)
      · have hv := @Lib.hid (errFun T ⟨nm, args, r⟩ = 0) (by rw [hd2.out, hno.out]; simp [h1000])
        have hpw := R2.out.plt
        clear hok hno hd2 his hia
        go_wp2
        refine wp_region_tt (S := fun W => Below wr.heap.size wr W) 18 (by kernel_rfl) (by kernel_rfl) (keep_drew wr) (fun hHeld => ?_)
        refine tt_take (i := 0) (v := _) (by rfl) (by decide +kernel) (by exact fun _ _ _ h => h) (Or.inl ⟨by rfl, by (intro W hSw; (try dsimp only at hSw); go_simp <;> with_reducible rfl)⟩) (by assumption) ?_
        (try simp only [Act.put, List.setIfInBounds_toArray, List.set_cons_zero, List.set_cons_succ])
        refine tt_take (i := 2) (v := _) (by rfl) (by decide +kernel) (by exact fun _ _ _ h => h) (Or.inl ⟨by rfl, by (intro W hSw; (try dsimp only at hSw); go_simp <;> with_reducible rfl)⟩) (by assumption) ?_
        (try simp only [Act.put, List.setIfInBounds_toArray, List.set_cons_zero, List.set_cons_succ])
        refine tt_take (i := 3) (v := _) (by rfl) (by decide +kernel) (by exact fun _ _ _ h => h) (Or.inl ⟨by rfl, by (intro W hSw; (try dsimp only at hSw); go_simp <;> with_reducible rfl)⟩) (by assumption) ?_
        (try simp only [Act.put, List.setIfInBounds_toArray, List.set_cons_zero, List.set_cons_succ])
        refine tt_take (i := 4) (v := _) (by rfl) (by decide +kernel) (by exact fun _ _ _ h => h) (Or.inl ⟨by rfl, by (intro W hSw; (try dsimp only at hSw); go_simp <;> with_reducible rfl)⟩) (by assumption) ?_
        (try simp only [Act.put, List.setIfInBounds_toArray, List.set_cons_zero, List.set_cons_succ])
        refine tt_take (i := 5) (v := _) (by rfl) (by decide +kernel) (by exact fun _ _ _ h => h) (Or.inl ⟨by rfl, by (intro W hSw; have hq1 := keep_cell (p := ⟨p, 1, none⟩) hSw q1; go_simp <;> with_reducible rfl)⟩) (by assumption) ?_
        (try simp only [Act.put, List.setIfInBounds_toArray, List.set_cons_zero, List.set_cons_succ])
        refine tt_take (i := 7) (v := _) (by rfl) (by decide +kernel) (by exact fun _ _ _ h => h) (Or.inl ⟨by rfl, by (intro W hSw; (try dsimp only at hSw); go_simp <;> with_reducible rfl)⟩) (by assumption) ?_
        (try simp only [Act.put, List.setIfInBounds_toArray, List.set_cons_zero, List.set_cons_succ])
        refine tt_take (i := 8) (v := _) (by rfl) (by decide +kernel) (by exact fun _ _ _ h => h) (Or.inl ⟨by rfl, by (intro W hSw; have hq1 := keep_cell hSw k0; go_simp <;> with_reducible rfl)⟩) (by assumption) ?_
        (try simp only [Act.put, List.setIfInBounds_toArray, List.set_cons_zero, List.set_cons_succ])
        refine tt_take (i := 10) (v := _) (by rfl) (by decide +kernel) (by exact fun _ _ _ h => h) (Or.inl ⟨by rfl, by (intro W hSw; (try dsimp only at hSw); go_simp <;> with_reducible rfl)⟩) (by assumption) ?_
        (try simp only [Act.put, List.setIfInBounds_toArray, List.set_cons_zero, List.set_cons_succ])
        refine tt_take (i := 11) (v := _) (by rfl) (by decide +kernel) (by exact fun _ _ _ h => h) (Or.inl ⟨by rfl, by (intro W hSw; have hq1 := keep_cell hSw k1; go_simp <;> with_reducible rfl)⟩) (by assumption) ?_
        (try simp only [Act.put, List.setIfInBounds_toArray, List.set_cons_zero, List.set_cons_succ])
        refine tt_take (i := 13) (v := _) (by rfl) (by decide +kernel) (by exact fun _ _ _ h => h) (Or.inl ⟨by rfl, by (intro W hSw; (try dsimp only at hSw); go_simp <;> with_reducible rfl)⟩) (by assumption) ?_
        (try simp only [Act.put, List.setIfInBounds_toArray, List.set_cons_zero, List.set_cons_succ])
        refine tt_take (i := 14) (v := _) (by rfl) (by decide +kernel) (by exact fun _ _ _ h => h) (Or.inl ⟨by rfl, by (intro W hSw; have hq1 := keep_cell hSw k2; go_simp <;> with_reducible rfl)⟩) (by assumption) ?_
        (try simp only [Act.put, List.setIfInBounds_toArray, List.set_cons_zero, List.set_cons_succ])
        refine tt_ready (rs := [1, 9]) (by decide +kernel) (allT_cons (by rfl) (fun K hK => ?_) (allT_cons (by rfl) (fun K hK => ?_) allT_nil))
        · skip
          go_simp
          refine hK.out _ _ (by (exact keep_alloc (by assumption) _)) (fun hHeld2 => ?_)
          clear hK K
          (try simp only [Act.put, List.setIfInBounds_toArray, List.set_cons_zero, List.set_cons_succ])
          refine tt_ready (rs := [6, 9]) (by decide +kernel) (allT_cons (by rfl) (fun K hK => ?_) (allT_cons (by rfl) (fun K hK => ?_) allT_nil))
          · skip
            refine step_append_C (base := wr.heap.size) (by rfl) (.tmp 65) (.tmp 69) (by rfl) Tryd.underlying39 hi hz0 hz1 hz2 rfl (by decide) (Eq.refl (Value.slice _ _ _)) (by rfl) (by first | exact OwnC.lit0 (by simp) (by simp) | exact (OwnC.lit0 (by simp) (by simp)).alloc _) (Src.keep sA.out (by assumption)) pO.out (by unfold maxLen; omega) (by omega) (Below.size (w := wr) (by assumption)) ?_
            intro v' w3 ho3 hg3 _
            rw [Nat.zero_add, List.nil_append] at ho3
            have O3 := Lib.hid ho3
            obtain ⟨a6, c6, rfl, _, _⟩ := ho3.slice
            first
            | have I7 := Lib.hid (OwnC.carry (base := wr.heap.size) (e := 3) (size := 1) (v := .slice (some ⟨wr.heap.size + 1, 0, none⟩) 0 0) (OwnC.lit0 (by simp) (by simp)).drew hg3 (by intro k hk; simp [Value.ownBlock] at hk; subst hk; simp [Value.ownBlock]))
            | have I7 := Lib.hid (OwnC.carry (base := wr.heap.size) (e := 3) (size := 1) (v := .slice (some ⟨wr.heap.size, 0, none⟩) 0 0) ((OwnC.lit0 (by simp) (by simp)).alloc _).drew hg3 (by intro k hk; simp [Value.ownBlock] at hk; subst hk; simp [Value.ownBlock]))
            | have I7 := Lib.hid True.intro
            clear ho3
            refine hK.out _ _ (by (exact keep_push (by assumption) hg3 (by intro k hk; simp [Value.ownBlock] at hk; omega))) (fun hHeld3 => ?_)
            clear hK K
            (try simp only [Act.put, List.setIfInBounds_toArray, List.set_cons_zero, List.set_cons_succ])
            refine tt_ready (rs := [9]) (by decide +kernel) (allT_cons (by rfl) (fun K hK => ?_) allT_nil)
            go_simp
            refine hK.out _ _ (by (exact keep_alloc (by assumption) _)) (fun hHeld4 => ?_)
            clear hK K
            (try simp only [Act.put, List.setIfInBounds_toArray, List.set_cons_zero, List.set_cons_succ])
            refine tt_ready (rs := [12]) (by decide +kernel) (allT_cons (by rfl) (fun K hK => ?_) allT_nil)
            refine step_append_C (base := wr.heap.size) (by rfl) (.tmp 73) (.tmp 75) (by rfl) Tryd.underlying30 hj hy0 hy1 hy2 rfl (by decide) (Eq.refl (Value.slice _ _ _)) (by rfl) (by first | exact I7.out | exact OwnC.lit0 (by first | rfl | simp) (Below.size (w := wr) (by assumption))) (Src.keep sX.out (by assumption)) int_one (by unfold maxLen; omega) (by omega) (Below.size (w := wr) (by assumption)) ?_
            intro v' w4 ho4 hg4 hl4
            rw [Nat.zero_add, List.nil_append] at ho4
            have O4 := Lib.hid ho4
            have F4 := Lib.hid (by first
              | exact OwnC.carry O3.out hg4 (fun k hk e => ty_ne (by decide) (O3.out.ty k hk) (I7.out.ty k e))
              | exact OwnC.carry (O3.out.alloc _) hg4 (fun k hk e => by have := (O3.out.lt k hk).2; simp [Value.ownBlock] at e; omega) : OwnC w4 wr.heap.size 32 3 (.slice a6 T.funs.length c6) T.funs.length css.flatten)
            obtain ⟨a7, c7, rfl, hc71, hc72⟩ := ho4.slice
            clear ho4
            refine hK.out _ _ (by (exact keep_push (by assumption) hg4 (by first | exact (fun k hk => (I7.out.lt k hk).1) | (intro k hk; have hz := Below.size (w := wr) (w' := w3) (by assumption); simp [Value.ownBlock] at hk; omega)))) (fun hHeld5 => ?_)
            clear hK K
            (try simp only [Act.put, List.setIfInBounds_toArray, List.set_cons_zero, List.set_cons_succ])
            refine tt_take (i := 15) (v := _) (by rfl) (by decide +kernel) (by exact fun _ _ _ h => h) (Or.inl ⟨by rfl, by (intro W hSw; (try dsimp only at hSw); go_simp <;> with_reducible rfl)⟩) (by assumption) ?_
            (try simp only [Act.put, List.setIfInBounds_toArray, List.set_cons_zero, List.set_cons_succ])
            refine tt_ready (rs := [16]) (by decide +kernel) (allT_cons (by rfl) (fun K hK => ?_) allT_nil)
            go_simp
            refine hK.out _ _ (by (exact keep_alloc (by assumption) _)) (fun hHeld6 => ?_)
            clear hK K
            (try simp only [Act.put, List.setIfInBounds_toArray, List.set_cons_zero, List.set_cons_succ])
            refine tt_ready (rs := [17]) (by decide +kernel) (allT_cons (by rfl) (fun K hK => ?_) allT_nil)
            refine step_append_C (base := wr.heap.size) (by rfl) (.tmp 70) (.tmp 80) (by rfl) Tryd.underlying39 hi hz0 hz1 hz2 rfl (by decide) (Eq.refl (Value.slice _ _ _)) (by rfl) (F4.out.alloc _) (Src.lit (CellsF.lit (us := [Value.string nm, .slice a7 args.length c7, .int .i64 r]) (by first | rfl | simp)) rfl) triple_one (by unfold maxLen; omega) (by omega) (Below.size (w := wr) (by assumption)) ?_
            intro v' w5 ho5 hg5 _
            have O5 := Lib.hid ho5
            have I5 := Lib.hid ((O4.out.alloc _).carry hg5 (fun k hk e => ty_ne (by decide) (F4.out.ty k e) (O4.out.ty k hk)))
            obtain ⟨a8, c8, rfl, _, _⟩ := ho5.slice
            clear ho5
            refine hK.out _ _ (by (exact keep_push (by assumption) hg5 (fun k hk => (F4.out.lt k hk).1))) (fun hHeld7 => ?_)
            clear hK K
            (try simp only [Act.put, List.setIfInBounds_toArray, List.set_cons_zero, List.set_cons_succ])
            refine tt_tail (by decide +kernel) ?_
            simp only [List.drop_succ_cons, List.drop_zero]
            have hB5 : Below wr.heap.size wr w5 := by assumption
            have B5 := Lib.hid hB5
            have g1' := keep_cell hB5 q1
            have f1' := (frz_p ((hB5.block p hpw).trans hblk'.out) 1)
            clear hg3 hg4 hg5 hB5 k0 k1 k2 q1
            go_wp2
            go_ret
            exact rfunDone R2.out hblk'.out B5.out pA.out ⟨rfl, rfl⟩ O5.out I5.out wfX.out hrb'.out hc71 hc72 hv.out hps.out
          · skip
            go_simp
            refine hK.out _ _ (by (exact keep_alloc (by assumption) _)) (fun hHeld3 => ?_)
            clear hK K
            (try simp only [Act.put, List.setIfInBounds_toArray, List.set_cons_zero, List.set_cons_succ])
            refine tt_ready (rs := [6]) (by decide +kernel) (allT_cons (by rfl) (fun K hK => ?_) allT_nil)
            refine step_append_C (base := wr.heap.size) (by rfl) (.tmp 65) (.tmp 69) (by rfl) Tryd.underlying39 hi hz0 hz1 hz2 rfl (by decide) (Eq.refl (Value.slice _ _ _)) (by rfl) (by first | exact OwnC.lit0 (by simp) (by simp) | exact (OwnC.lit0 (by simp) (by simp)).alloc _) (Src.keep sA.out (by assumption)) pO.out (by unfold maxLen; omega) (by omega) (Below.size (w := wr) (by assumption)) ?_
            intro v' w3 ho3 hg3 _
            rw [Nat.zero_add, List.nil_append] at ho3
            have O3 := Lib.hid ho3
            obtain ⟨a6, c6, rfl, _, _⟩ := ho3.slice
            first
            | have I7 := Lib.hid (OwnC.carry (base := wr.heap.size) (e := 3) (size := 1) (v := .slice (some ⟨wr.heap.size + 1, 0, none⟩) 0 0) (OwnC.lit0 (by simp) (by simp)).drew hg3 (by intro k hk; simp [Value.ownBlock] at hk; subst hk; simp [Value.ownBlock]))
            | have I7 := Lib.hid (OwnC.carry (base := wr.heap.size) (e := 3) (size := 1) (v := .slice (some ⟨wr.heap.size, 0, none⟩) 0 0) ((OwnC.lit0 (by simp) (by simp)).alloc _).drew hg3 (by intro k hk; simp [Value.ownBlock] at hk; subst hk; simp [Value.ownBlock]))
            | have I7 := Lib.hid True.intro
            clear ho3
            refine hK.out _ _ (by (exact keep_push (by assumption) hg3 (by intro k hk; simp [Value.ownBlock] at hk; omega))) (fun hHeld4 => ?_)
            clear hK K
            (try simp only [Act.put, List.setIfInBounds_toArray, List.set_cons_zero, List.set_cons_succ])
            refine tt_ready (rs := [12]) (by decide +kernel) (allT_cons (by rfl) (fun K hK => ?_) allT_nil)
            refine step_append_C (base := wr.heap.size) (by rfl) (.tmp 73) (.tmp 75) (by rfl) Tryd.underlying30 hj hy0 hy1 hy2 rfl (by decide) (Eq.refl (Value.slice _ _ _)) (by rfl) (by first | exact I7.out | exact OwnC.lit0 (by first | rfl | simp) (Below.size (w := wr) (by assumption))) (Src.keep sX.out (by assumption)) int_one (by unfold maxLen; omega) (by omega) (Below.size (w := wr) (by assumption)) ?_
            intro v' w4 ho4 hg4 hl4
            rw [Nat.zero_add, List.nil_append] at ho4
            have O4 := Lib.hid ho4
            have F4 := Lib.hid (by first
              | exact OwnC.carry O3.out hg4 (fun k hk e => ty_ne (by decide) (O3.out.ty k hk) (I7.out.ty k e))
              | exact OwnC.carry (O3.out.alloc _) hg4 (fun k hk e => by have := (O3.out.lt k hk).2; simp [Value.ownBlock] at e; omega) : OwnC w4 wr.heap.size 32 3 (.slice a6 T.funs.length c6) T.funs.length css.flatten)
            obtain ⟨a7, c7, rfl, hc71, hc72⟩ := ho4.slice
            clear ho4
            refine hK.out _ _ (by (exact keep_push (by assumption) hg4 (by first | exact (fun k hk => (I7.out.lt k hk).1) | (intro k hk; have hz := Below.size (w := wr) (w' := w3) (by assumption); simp [Value.ownBlock] at hk; omega)))) (fun hHeld5 => ?_)
            clear hK K
            (try simp only [Act.put, List.setIfInBounds_toArray, List.set_cons_zero, List.set_cons_succ])
            refine tt_take (i := 15) (v := _) (by rfl) (by decide +kernel) (by exact fun _ _ _ h => h) (Or.inl ⟨by rfl, by (intro W hSw; (try dsimp only at hSw); go_simp <;> with_reducible rfl)⟩) (by assumption) ?_
            (try simp only [Act.put, List.setIfInBounds_toArray, List.set_cons_zero, List.set_cons_succ])
            refine tt_ready (rs := [16]) (by decide +kernel) (allT_cons (by rfl) (fun K hK => ?_) allT_nil)
            go_simp
            refine hK.out _ _ (by (exact keep_alloc (by assumption) _)) (fun hHeld6 => ?_)
            clear hK K
            (try simp only [Act.put, List.setIfInBounds_toArray, List.set_cons_zero, List.set_cons_succ])
            refine tt_ready (rs := [17]) (by decide +kernel) (allT_cons (by rfl) (fun K hK => ?_) allT_nil)
            refine step_append_C (base := wr.heap.size) (by rfl) (.tmp 70) (.tmp 80) (by rfl) Tryd.underlying39 hi hz0 hz1 hz2 rfl (by decide) (Eq.refl (Value.slice _ _ _)) (by rfl) (F4.out.alloc _) (Src.lit (CellsF.lit (us := [Value.string nm, .slice a7 args.length c7, .int .i64 r]) (by first | rfl | simp)) rfl) triple_one (by unfold maxLen; omega) (by omega) (Below.size (w := wr) (by assumption)) ?_
            intro v' w5 ho5 hg5 _
            have O5 := Lib.hid ho5
            have I5 := Lib.hid ((O4.out.alloc _).carry hg5 (fun k hk e => ty_ne (by decide) (F4.out.ty k e) (O4.out.ty k hk)))
            obtain ⟨a8, c8, rfl, _, _⟩ := ho5.slice
            clear ho5
            refine hK.out _ _ (by (exact keep_push (by assumption) hg5 (fun k hk => (F4.out.lt k hk).1))) (fun hHeld7 => ?_)
            clear hK K
            (try simp only [Act.put, List.setIfInBounds_toArray, List.set_cons_zero, List.set_cons_succ])
            refine tt_tail (by decide +kernel) ?_
            simp only [List.drop_succ_cons, List.drop_zero]
            have hB5 : Below wr.heap.size wr w5 := by assumption
            have B5 := Lib.hid hB5
            have g1' := keep_cell hB5 q1
            have f1' := (frz_p ((hB5.block p hpw).trans hblk'.out) 1)
            clear hg3 hg4 hg5 hB5 k0 k1 k2 q1
            go_wp2
            go_ret
            exact rfunDone R2.out hblk'.out B5.out pA.out ⟨rfl, rfl⟩ O5.out I5.out wfX.out hrb'.out hc71 hc72 hv.out hps.out
        · skip
          go_simp
          refine hK.out _ _ (by (exact keep_alloc (by assumption) _)) (fun hHeld2 => ?_)
          clear hK K
          (try simp only [Act.put, List.setIfInBounds_toArray, List.set_cons_zero, List.set_cons_succ])
          refine tt_ready (rs := [1]) (by decide +kernel) (allT_cons (by rfl) (fun K hK => ?_) allT_nil)
          go_simp
          refine hK.out _ _ (by (exact keep_alloc (by assumption) _)) (fun hHeld3 => ?_)
          clear hK K
          (try simp only [Act.put, List.setIfInBounds_toArray, List.set_cons_zero, List.set_cons_succ])
          refine tt_ready (rs := [6]) (by decide +kernel) (allT_cons (by rfl) (fun K hK => ?_) allT_nil)
          refine step_append_C (base := wr.heap.size) (by rfl) (.tmp 65) (.tmp 69) (by rfl) Tryd.underlying39 hi hz0 hz1 hz2 rfl (by decide) (Eq.refl (Value.slice _ _ _)) (by rfl) (by first | exact OwnC.lit0 (by simp) (by simp) | exact (OwnC.lit0 (by simp) (by simp)).alloc _) (Src.keep sA.out (by assumption)) pO.out (by unfold maxLen; omega) (by omega) (Below.size (w := wr) (by assumption)) ?_
          intro v' w3 ho3 hg3 _
          rw [Nat.zero_add, List.nil_append] at ho3
          have O3 := Lib.hid ho3
          obtain ⟨a6, c6, rfl, _, _⟩ := ho3.slice
          first
          | have I7 := Lib.hid (OwnC.carry (base := wr.heap.size) (e := 3) (size := 1) (v := .slice (some ⟨wr.heap.size + 1, 0, none⟩) 0 0) (OwnC.lit0 (by simp) (by simp)).drew hg3 (by intro k hk; simp [Value.ownBlock] at hk; subst hk; simp [Value.ownBlock]))
          | have I7 := Lib.hid (OwnC.carry (base := wr.heap.size) (e := 3) (size := 1) (v := .slice (some ⟨wr.heap.size, 0, none⟩) 0 0) ((OwnC.lit0 (by simp) (by simp)).alloc _).drew hg3 (by intro k hk; simp [Value.ownBlock] at hk; subst hk; simp [Value.ownBlock]))
          | have I7 := Lib.hid True.intro
          clear ho3
          refine hK.out _ _ (by (exact keep_push (by assumption) hg3 (by intro k hk; simp [Value.ownBlock] at hk; omega))) (fun hHeld4 => ?_)
          clear hK K
          (try simp only [Act.put, List.setIfInBounds_toArray, List.set_cons_zero, List.set_cons_succ])
          refine tt_ready (rs := [12]) (by decide +kernel) (allT_cons (by rfl) (fun K hK => ?_) allT_nil)
          refine step_append_C (base := wr.heap.size) (by rfl) (.tmp 73) (.tmp 75) (by rfl) Tryd.underlying30 hj hy0 hy1 hy2 rfl (by decide) (Eq.refl (Value.slice _ _ _)) (by rfl) (by first | exact I7.out | exact OwnC.lit0 (by first | rfl | simp) (Below.size (w := wr) (by assumption))) (Src.keep sX.out (by assumption)) int_one (by unfold maxLen; omega) (by omega) (Below.size (w := wr) (by assumption)) ?_
          intro v' w4 ho4 hg4 hl4
          rw [Nat.zero_add, List.nil_append] at ho4
          have O4 := Lib.hid ho4
          have F4 := Lib.hid (by first
            | exact OwnC.carry O3.out hg4 (fun k hk e => ty_ne (by decide) (O3.out.ty k hk) (I7.out.ty k e))
            | exact OwnC.carry (O3.out.alloc _) hg4 (fun k hk e => by have := (O3.out.lt k hk).2; simp [Value.ownBlock] at e; omega) : OwnC w4 wr.heap.size 32 3 (.slice a6 T.funs.length c6) T.funs.length css.flatten)
          obtain ⟨a7, c7, rfl, hc71, hc72⟩ := ho4.slice
          clear ho4
          refine hK.out _ _ (by (exact keep_push (by assumption) hg4 (by first | exact (fun k hk => (I7.out.lt k hk).1) | (intro k hk; have hz := Below.size (w := wr) (w' := w3) (by assumption); simp [Value.ownBlock] at hk; omega)))) (fun hHeld5 => ?_)
          clear hK K
          (try simp only [Act.put, List.setIfInBounds_toArray, List.set_cons_zero, List.set_cons_succ])
          refine tt_take (i := 15) (v := _) (by rfl) (by decide +kernel) (by exact fun _ _ _ h => h) (Or.inl ⟨by rfl, by (intro W hSw; (try dsimp only at hSw); go_simp <;> with_reducible rfl)⟩) (by assumption) ?_
          (try simp only [Act.put, List.setIfInBounds_toArray, List.set_cons_zero, List.set_cons_succ])
          refine tt_ready (rs := [16]) (by decide +kernel) (allT_cons (by rfl) (fun K hK => ?_) allT_nil)
          go_simp
          refine hK.out _ _ (by (exact keep_alloc (by assumption) _)) (fun hHeld6 => ?_)
          clear hK K
          (try simp only [Act.put, List.setIfInBounds_toArray, List.set_cons_zero, List.set_cons_succ])
          refine tt_ready (rs := [17]) (by decide +kernel) (allT_cons (by rfl) (fun K hK => ?_) allT_nil)
          refine step_append_C (base := wr.heap.size) (by rfl) (.tmp 70) (.tmp 80) (by rfl) Tryd.underlying39 hi hz0 hz1 hz2 rfl (by decide) (Eq.refl (Value.slice _ _ _)) (by rfl) (F4.out.alloc _) (Src.lit (CellsF.lit (us := [Value.string nm, .slice a7 args.length c7, .int .i64 r]) (by first | rfl | simp)) rfl) triple_one (by unfold maxLen; omega) (by omega) (Below.size (w := wr) (by assumption)) ?_
          intro v' w5 ho5 hg5 _
          have O5 := Lib.hid ho5
          have I5 := Lib.hid ((O4.out.alloc _).carry hg5 (fun k hk e => ty_ne (by decide) (F4.out.ty k e) (O4.out.ty k hk)))
          obtain ⟨a8, c8, rfl, _, _⟩ := ho5.slice
          clear ho5
          refine hK.out _ _ (by (exact keep_push (by assumption) hg5 (fun k hk => (F4.out.lt k hk).1))) (fun hHeld7 => ?_)
          clear hK K
          (try simp only [Act.put, List.setIfInBounds_toArray, List.set_cons_zero, List.set_cons_succ])
          refine tt_tail (by decide +kernel) ?_
          simp only [List.drop_succ_cons, List.drop_zero]
          have hB5 : Below wr.heap.size wr w5 := by assumption
          have B5 := Lib.hid hB5
          have g1' := keep_cell hB5 q1
          have f1' := (frz_p ((hB5.block p hpw).trans hblk'.out) 1)
          clear hg3 hg4 hg5 hB5 k0 k1 k2 q1
          go_wp2
          go_ret
          exact rfunDone R2.out hblk'.out B5.out pA.out ⟨rfl, rfl⟩ O5.out I5.out wfX.out hrb'.out hc71 hc72 hv.out hps.out
end Go.Proofs.YtpkajhmgkmkcgaaDoor
