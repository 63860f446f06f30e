/-
  The contract of clause.Resolve: over readable slices it returns what two clauses come to without a literal. Condition: fewer than 2^40 elements each.
-/
import Derived.Test.YtglbdkjdglcncaaN
namespace Go.Proofs.Ytglbdkjdglcncaa
open Go.RowKit Go.Sort Go.Lib

theorem info_int : (Try.prog.info? 3).map (fun i => (i.zero, i.size, i.bytes)) = some (some (.int .i64 0), 1, 8) := by kernel_rfl

def negL (x : Int) : Int := wrap64 (-x)
def flt (lit : Int) (xs : List Int) (k : Nat) : List Int := (xs.take k).filter fun y => y != lit
def without (lit : Int) (xs : List Int) : List Int := xs.filter fun y => y != lit
theorem flt_zero (lit : Int) (xs : List Int) : flt lit xs 0 = [] := rfl
theorem flt_all {lit : Int} {xs : List Int} {n : Nat} (h : xs.length = n) : flt lit xs n = without lit xs := by unfold flt without; rw [← h, List.take_length]
theorem take_succ_nth {xs : List Int} {k : Nat} (hk : k < xs.length) : xs.take (k + 1) = xs.take k ++ [nth xs k] := by
  rw [List.take_succ_eq_append_getElem hk, nth_eq hk]
theorem flt_keep {lit : Int} {xs : List Int} {k : Nat} (hk : k < xs.length) (h : (nth xs k != lit) = true) : flt lit xs (k + 1) = flt lit xs k ++ [nth xs k] := by
  unfold flt; rw [take_succ_nth hk, List.filter_append]; simp only [List.filter_cons, h, if_true, List.filter_nil]
theorem flt_drop {lit : Int} {xs : List Int} {k : Nat} (hk : k < xs.length) (h : (nth xs k != lit) = false) : flt lit xs (k + 1) = flt lit xs k := by
  unfold flt; rw [take_succ_nth hk, List.filter_append]; simp only [List.filter_cons, h, Bool.false_eq_true, if_false, List.filter_nil, List.append_nil]
theorem flt_len (lit : Int) (xs : List Int) (k : Nat) : (flt lit xs k).length ≤ k := by
  unfold flt; exact Nat.le_trans (List.length_filter_le _ _) (List.length_take_le _ _)

def resBad (xs ys : List Int) (lit : Int) : Bool := lit == 0 || lit == negL lit || !hasI xs lit || !hasI ys (negL lit)
def comb (xs ys : List Int) (lit : Int) : List Int := without lit xs ++ without (negL lit) ys
def resErr (xs ys : List Int) (lit : Int) : Bool := resBad xs ys lit || alw (comb xs ys lit)
def resE (xs ys : List Int) (lit : Int) : Int := if resErr xs ys lit then 1 else 0
def resL (xs ys : List Int) (lit : Int) : List Int := if resErr xs ys lit then [] else nrm (comb xs ys lit)

def ResPost (xs ys : List Int) (lit : Int) (w : World) (e : Ending) (w' : World) : Prop :=
  ∃ a m c, e = .returned (.tuple #[.slice a m c, .int .i64 (resE xs ys lit)]) ∧ RdI w' a m (resL xs ys lit) ∧ Below w.heap.size w w'
theorem res_err {xs ys : List Int} {lit : Int} {w W : World} (hb : Below w.heap.size w W) (h : resErr xs ys lit = true) : ResPost xs ys lit w (.returned (.tuple #[.slice none 0 0, .int .i64 1])) W :=
  ⟨none, 0, 0, by unfold resE; rw [h]; rfl, by unfold resL; rw [h]; exact RdI.nil _ _, hb⟩
theorem res_ok {xs ys : List Int} {lit : Int} {w W : World} {a : Option Addr} {m c : Nat} (hb : Below w.heap.size w W) (h : resBad xs ys lit = false) (h2 : alw (comb xs ys lit) = false) (hr : RdI W a m (nout (comb xs ys lit))) : ResPost xs ys lit w (.returned (.tuple #[.slice a m c, .int .i64 0])) W := by
  have : resErr xs ys lit = false := by unfold resErr; rw [h, h2]; rfl
  refine ⟨a, m, c, by unfold resE; rw [this]; rfl, ?_, hb⟩
  unfold resL
  rw [this]
  unfold nout at hr
  rw [h2] at hr
  exact hr
theorem wf_without {lit : Int} {xs : List Int} (h : WfI xs) : WfI (without lit xs) := fun x hx => h x (List.mem_filter.1 hx).1
theorem wf_append {xs ys : List Int} (h : WfI xs) (h' : WfI ys) : WfI (xs ++ ys) := fun x hx => (List.mem_append.1 hx).elim (h x) (h' x)

set_option maxRecDepth 100000 in
set_option maxHeartbeats 1000000 in
theorem resolve_any (a b : Option Addr) (n m c d : Nat) (xs ys : List Int) (lit : Int) (w : World) (hx : RdI w a n xs) (hy : RdI w b m ys) (hn : n < 1099511627776) (hm : m < 1099511627776) :
    Calls Try.prog 17 #[.slice a n c, .slice b m d, .int .i64 lit] w fun e w' => ResPost xs ys lit w e w' := by
  have lx := Lib.hid hx.len
  have ly := Lib.hid hy.len
  have hwx := Lib.hid hx.wf
  have hwy := Lib.hid hy.wf
  have hx' := Lib.hid hx
  have hy' := Lib.hid hy
  clear hx hy
  have hbad := @Lib.hid (resBad xs ys lit = (lit == 0 || lit == negL lit || !hasI xs lit || !hasI ys (negL lit))) rfl
  have herr : resBad xs ys lit = true → resErr xs ys lit = true := fun h => by unfold resErr; rw [h]; rfl
  have herr' := Lib.hid herr
  clear herr
  have hng : wrap64 (-lit) = negL lit := rfl
  cases h0 : lit == 0
  case true =>
    have hv := Lib.hid (herr'.out (by rw [hbad.out, h0]; rfl))
    go_enter Try.func17, Try.ntmps17
    go_wp2
    go_ret2
    exact res_err (Below.refl _ _) hv.out
  case false =>
  cases h1 : lit == negL lit
  case true =>
    have hv := Lib.hid (herr'.out (by rw [hbad.out, h0, h1]; rfl))
    go_enter Try.func17, Try.ntmps17
    go_wp2
    go_ret2
    exact res_err (Below.refl _ _) hv.out
  case false =>
  have hca := Lib.hid (contains_any a n c xs lit w hx'.out (by omega))
  have hcb := Lib.hid (contains_any b m d ys (negL lit) w hy'.out (by omega))
  cases h2 : hasI xs lit
  case false =>
    have hv := Lib.hid (herr'.out (by rw [hbad.out, h0, h1, h2]; rfl))
    rw [h2] at hca
    go_enter Try.func17, Try.ntmps17
    go_wp2_with fail
    refine hca.out.mono ?_; rintro e w' ⟨rfl, rfl⟩
    go_wp2
    go_ret2
    exact res_err (Below.refl _ _) hv.out
  case true =>
  rw [h2] at hca
  cases h3 : hasI ys (negL lit)
  case false =>
    have hv := Lib.hid (herr'.out (by rw [hbad.out, h0, h1, h2, h3]; rfl))
    rw [h3] at hcb
    clear h2 h3
    go_enter Try.func17, Try.ntmps17
    go_wp2_with fail
    refine hca.out.mono ?_; rintro e w' ⟨rfl, rfl⟩
    go_wp2_with fail
    refine hcb.out.mono ?_; rintro e w' ⟨rfl, rfl⟩
    go_wp2
    go_ret2
    exact res_err (Below.refl _ _) hv.out
  case true =>
  have hv : resBad xs ys lit = false := by rw [hbad.out, h0, h1, h2, h3]; rfl
  have hv' := Lib.hid hv
  rw [h3] at hcb
  clear hv hbad herr' h2 h3
  go_enter Try.func17, Try.ntmps17
  go_wp2_with fail
  refine hca.out.mono ?_; rintro e w' ⟨rfl, rfl⟩
  go_wp2_with fail
  refine hcb.out.mono ?_; rintro e w' ⟨rfl, rfl⟩
  clear hca hcb
  obtain ⟨i0, hi, hz0, hz1, hz2⟩ := info_parts info_int
  go_wp2
  go_loopw [8, 38] (fun v i wr => ∃ k : Nat, k ≤ n ∧ i = .int .i64 k ∧ wr.ownsRow w.heap.size 3 1 v (flt lit xs k).length ((flt lit xs k).map (Value.int .i64)) ∧ Below w.heap.size w wr) (fun _ i _ => n - (intOf i).toNat)
  case atStart => exact ⟨0, Nat.zero_le _, rfl, World.ownsRow_nil _ _ _ _, Below.refl _ _⟩
  case round =>
    obtain ⟨k, hk, rfl, hown, hb⟩ := hrel
    by_cases hlt : k < n
    · have hxw := (hx'.out.below hb (Nat.le_refl _)).at k hlt
      obtain ⟨b1, o1, rfl, h4⟩ := hxw
      have hfl := flt_len lit xs k
      have hown' := Lib.hid hown
      clear hown
      have hb' := Lib.hid hb
      have hsz := hb.size
      clear hb
      have hkx : k < xs.length := by rw [lx.out]; exact hlt
      cases hne : (nth xs k != lit)
      · have hst := Lib.hid (flt_drop hkx hne)
        go_wp2
        go_roundw
        case rel => exact ⟨k + 1, by omega, by go_num, by rw [hst.out]; exact hown'.out, hb'.out⟩
        case measure => simp [intOf]; omega
      · have hst := Lib.hid (flt_keep hkx hne)
        clear hkx
        generalize hgx : nth xs k = x at *
        clear hgx
        go_wp2_with (at_builtin; refine wpList_append_own _ rfl _ _ 30 rfl w.heap.size 3 i0 (.int .i64 0) 1 8 Try.underlying30 hi hz0 hz1 hz2 rfl (by decide) _ _ _ rfl (hown'.out.alloc _) ⟨wr.heap.size, 0, none⟩ 1 1 [.int .i64 x] rfl rfl ?c1 ?c2 ?c3 ?c4 ?c5 ?_)
        case c1 => exact cell_one_new _ _ _
        case c2 => intro u hu; simp at hu; subst hu; rfl
        case c3 => unfold maxLen; omega
        case c4 => omega
        case c5 => simp; omega
        intro v' w1 hown1 hgrow _
        have hres := Lib.hid (own_snoc hown'.out hb'.out (Nat.le_refl _) hsz hown1 hgrow hst.out)
        clear hown1 hgrow
        go_wp2
        go_roundw
        case rel => exact ⟨k + 1, by omega, by go_num, hres.out.1, hres.out.2⟩
        case measure => simp [intOf]; omega
    · obtain rfl : k = n := by omega
      rw [flt_all lx.out] at hown
      have hown' := Lib.hid hown
      have hb' := Lib.hid hb
      have hsz := hb.size
      have hla : (without lit xs).length ≤ k := by rw [← flt_all lx.out]; exact flt_len lit xs k
      clear hown hb
      go_wp2
      obtain ⟨wo, rfl⟩ : ∃ wo : World, wo = wr := ⟨_, rfl⟩
      go_loopw [8, 52] (fun v i wr => ∃ j : Nat, j ≤ m ∧ i = .int .i64 j ∧ wr.ownsRow w.heap.size 3 1 v (without lit xs ++ flt (negL lit) ys j).length ((without lit xs ++ flt (negL lit) ys j).map (Value.int .i64)) ∧ Below w.heap.size w wr) (fun _ i _ => m - (intOf i).toNat)
      case atStart => exact ⟨0, Nat.zero_le _, rfl, by rw [flt_zero, List.append_nil]; exact hown'.out, hb'.out⟩
      case round =>
        clear hown' hb' hsz
        obtain ⟨j, hj, rfl, hown, hb⟩ := hrel
        by_cases hlt : j < m
        · have hxw := (hy'.out.below hb (Nat.le_refl _)).at j hlt
          obtain ⟨b1, o1, rfl, h4⟩ := hxw
          have hfl := flt_len (negL lit) ys j
          have hal : (without lit xs ++ flt (negL lit) ys j).length ≤ k + j := by rw [List.length_append]; omega
          have hown' := Lib.hid hown
          clear hown
          have hb' := Lib.hid hb
          have hsz := hb.size
          clear hb
          have hkx : j < ys.length := by rw [ly.out]; exact hlt
          cases hne : (nth ys j != negL lit)
          · have hst := Lib.hid (flt_drop hkx hne)
            go_wp2
            go_roundw
            case rel => exact ⟨j + 1, by omega, by go_num, by rw [hst.out]; exact hown'.out, hb'.out⟩
            case measure => simp [intOf]; omega
          · have hst := @Lib.hid (without lit xs ++ flt (negL lit) ys (j + 1) = (without lit xs ++ flt (negL lit) ys j) ++ [nth ys j]) (by rw [flt_keep hkx hne, List.append_assoc])
            clear hkx
            generalize hgx : nth ys j = x at *
            clear hgx
            generalize hgl : without lit xs ++ flt (negL lit) ys j = L at *
            clear hgl
            go_wp2_with (at_builtin; refine wpList_append_own _ rfl _ _ 30 rfl w.heap.size 3 i0 (.int .i64 0) 1 8 Try.underlying30 hi hz0 hz1 hz2 rfl (by decide) _ _ _ rfl (hown'.out.alloc _) ⟨wr.heap.size, 0, none⟩ 1 1 [.int .i64 x] rfl rfl ?d1 ?d2 ?d3 ?d4 ?d5 ?_)
            case d1 => exact cell_one_new _ _ _
            case d2 => intro u hu; simp at hu; subst hu; rfl
            case d3 => unfold maxLen; omega
            case d4 => omega
            case d5 => simp; omega
            intro v' w1 hown1 hgrow _
            have hres := Lib.hid (own_snoc hown'.out hb'.out (Nat.le_refl _) hsz hown1 hgrow hst.out)
            clear hown1 hgrow
            go_wp2
            go_roundw
            case rel => exact ⟨j + 1, by omega, by go_num, hres.out.1, hres.out.2⟩
            case measure => simp [intOf]; omega
        · obtain rfl : j = m := by omega
          rw [flt_all ly.out] at hown
          obtain ⟨a3, c3, rfl, _⟩ := hown.slice
          have hlb : (without (negL lit) ys).length ≤ j := by rw [← flt_all ly.out]; exact flt_len _ ys j
          have hwfc : WfI (comb xs ys lit) := wf_append (wf_without hwx.out) (wf_without hwy.out)
          have hrd := (RdI.own hown hwfc).2.1
          have hrd' := Lib.hid hrd
          have hb' := Lib.hid hb
          have hlen : (without lit xs ++ without (negL lit) ys).length < 17592186044416 := by rw [List.length_append]; omega
          clear hown hb hrd hwfc hlb
          have hcm := @Lib.hid (without lit xs ++ without (negL lit) ys = comb xs ys lit) rfl
          generalize (without lit xs ++ without (negL lit) ys).length = r at *
          go_wp2_with fail
          refine (norm_any _ _ _ (comb xs ys lit) _ hrd'.out hlen).mono ?_; rintro e w2 ⟨a4, m4, c4, rfl, hr4, _, hb4⟩
          have hr4' := Lib.hid hr4
          have hb4' := Lib.hid (hb'.out.trans (hb4.mono hb'.out.size))
          clear hr4 hb4
          cases hal : alw (comb xs ys lit)
          · have hal' := Lib.hid hal
            go_wp2
            go_ret2
            exact res_ok hb4'.out hv'.out hal'.out hr4'.out
          · have hal' := Lib.hid hal
            go_wp2
            go_ret2
            exact res_err hb4'.out (by unfold resErr; rw [hal'.out]; simp)
end Go.Proofs.Ytglbdkjdglcncaa
