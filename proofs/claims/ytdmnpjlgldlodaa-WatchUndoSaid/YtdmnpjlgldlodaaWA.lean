/-
  watch: which literals are true (a map in memory that holds a list of literals): value, set, left. Conditions: literals are ints; fewer than 2^40 of them.
-/
import Derived.Test.YtdmnpjlgldlodaaR
import Derived.Test.YtdmnpjlgldlodaaM
import Derived.Test.YtdmnpjlgldlodaaT
import Derived.Maps.RangeWalk
namespace Go.Proofs.Ytdmnpjlgldlodaa
open Go.RowKit Go.Sort Go.Lib

/-- The map in block m holds true at just the literals of S, each once. -/
structure TruthIs (m : Nat) (S : List Int) (w : World) : Prop where
  nodup : S.Nodup
  wf : WfI S
  map : MapV Try.prog 3 m S.length (fun x => if hasI S x then some (.bool true) else none) w

theorem under_bool : Try.prog.underlying 4 = some .bool := Try.underlying4
theorem zero_bool (w : World) : (zeroValue 4).run Try.prog w = .ok (.bool false) w := by kernel_rfl
theorem okI_negL (x : Int) : okI (negL x) := by unfold okI negL wrap64; omega
theorem TruthIs.touch {S0 : Nat → Prop} {m : Nat} {S : List Int} {w w' : World} (h : TruthIs m S w) (ht : Touch S0 w w') (hm : ¬ S0 m) : TruthIs m S w' :=
  ⟨h.nodup, h.wf, h.map.same (ht.block m h.map.lt hm)⟩
theorem TruthIs.below {m : Nat} {S : List Int} {w w' : World} (h : TruthIs m S w) (ht : Below w.heap.size w w') : TruthIs m S w' := h.touch (Touch.of_below (S := fun _ => False) ht) (fun h => h)
theorem TruthIs.look {m : Nat} {S : List Int} {w : World} (h : TruthIs m S w) {x : Int} (hx : okI x) : (Instr.lookup 80 (.map (some m)) (.int .i64 x) false).run Try.prog w = .ok (.bool (hasI S x)) w := by
  have := h.map.look Try.underlying3 Try.underlying80 (zero_bool w) hx
  rw [this]
  cases hasI S x <;> rfl

/-- a literal's value -/
def valS (S : List Int) (x : Int) : Int := if hasI S x then 1 else if hasI S (negL x) then -1 else 0
theorem valS_one {S : List Int} {x : Int} (h : hasI S x = true) : (1 : Int) = valS S x := by unfold valS; rw [if_pos h]
theorem valS_neg {S : List Int} {x : Int} (h : hasI S x = false) (h2 : hasI S (negL x) = true) : (-1 : Int) = valS S x := by unfold valS; rw [if_neg (by rw [h]; decide), if_pos h2]
theorem valS_none {S : List Int} {x : Int} (h : hasI S x = false) (h2 : hasI S (negL x) = false) : (0 : Int) = valS S x := by unfold valS; rw [if_neg (by rw [h]; decide), if_neg (by rw [h2]; decide)]

set_option maxHeartbeats 400000 in
theorem value_any (m : Nat) (S : List Int) (x : Int) (w : World) (h : TruthIs m S w) (hx : okI x) : Calls Try.prog 47 #[.map (some m), .int .i64 x] w fun e w' => e = .returned (.int .i64 (valS S x)) ∧ w = w' := by
  have h1 := h.look hx
  have h2 := h.look (okI_negL x)
  have hn : wrap64 (-x) = negL x := rfl
  clear h hx
  cases g1 : hasI S x
  · cases g2 : hasI S (negL x)
    · have hv := Lib.hid (valS_none g1 g2)
      rw [g1] at h1
      rw [g2] at h2
      clear g1 g2
      go_enter Try.func47, Try.ntmps47
      go_wp2
      go_ret
      exact ⟨ret_int hv.out, rfl⟩
    · have hv := Lib.hid (valS_neg g1 g2)
      rw [g1] at h1
      rw [g2] at h2
      clear g1 g2
      go_enter Try.func47, Try.ntmps47
      go_wp2
      go_ret
      exact ⟨ret_int hv.out, rfl⟩
  · have hv := Lib.hid (valS_one g1)
    rw [g1] at h1
    clear g1 h2
    go_enter Try.func47, Try.ntmps47
    go_wp2
    go_ret
    exact ⟨ret_int hv.out, rfl⟩

def addS (S : List Int) (x : Int) : List Int := if hasI S x then S else S ++ [x]
theorem has_addS (S : List Int) (x y : Int) : hasI (addS S x) y = (hasI S y || y == x) := by
  unfold addS
  by_cases h : hasI S x = true
  · rw [if_pos h]
    by_cases e : y = x
    · subst e; simp [h]
    · simp [e]
  · rw [if_neg h]
    unfold hasI
    simp
    by_cases e : y = x <;> simp [e]
theorem nodup_addS {S : List Int} {x : Int} (h : S.Nodup) : (addS S x).Nodup := by
  unfold addS
  by_cases hx : hasI S x = true
  · rw [if_pos hx]; exact h
  · rw [if_neg hx, List.nodup_append]
    refine ⟨h, by simp, fun a ha b hb e => ?_⟩
    simp at hb
    subst hb; subst e
    exact hx (hasI_iff.2 ha)
theorem wf_addS {S : List Int} {x : Int} (h : WfI S) (hx : okI x) : WfI (addS S x) := by
  unfold addS
  by_cases hx' : hasI S x = true
  · rw [if_pos hx']; exact h
  · rw [if_neg hx']; exact wf_append h (fun y hy => by simp at hy; subst hy; exact hx)
theorem len_addS (S : List Int) (x : Int) : (addS S x).length ≤ S.length + 1 := by
  unfold addS
  by_cases hx : hasI S x = true
  · rw [if_pos hx]; omega
  · rw [if_neg hx]; simp

/-- 't[x] = true' -/
theorem TruthIs.store {m : Nat} {S : List Int} {w : World} (h : TruthIs m S w) {x : Int} (hx : okI x) (hl : S.length < 1152921504606846976) :
    ∃ w', (Instr.mapUpdate 80 (.map (some m)) (.int .i64 x) (.bool true)).run Try.prog w = .ok () w' ∧ TruthIs m (addS S x) w' ∧ w.mapTurned w' m := by
  obtain ⟨w', h1, h2, h3⟩ := h.map.store Try.underlying3 Try.underlying80 (by unfold maxLen; omega) hx (.bool true)
  refine ⟨w', h1, ⟨nodup_addS h.nodup, wf_addS h.wf hx, ?_⟩, h3⟩
  have e1 : upd (fun y => if hasI S y then some (Value.bool true) else none) x (some (.bool true)) = fun y => if hasI (addS S x) y then some (Value.bool true) else none := by
    funext y
    rw [has_addS]
    by_cases e : y = x
    · subst e; rw [upd_same]; simp
    · rw [upd_other _ _ e]; simp [e]
  have e2 : (if ((fun y => if hasI S y then some (Value.bool true) else none) x).isSome then S.length else S.length + 1) = (addS S x).length := by
    unfold addS
    by_cases hx' : hasI S x = true
    · simp [hx']
    · simp [hx']
  rw [e1, e2] at h2
  exact h2

def SetPost (m : Nat) (S : List Int) (x : Int) (w : World) (e : Ending) (w' : World) : Prop :=
  if valS S x = -1 then e = .returned (.bool false) ∧ w = w' else e = .returned (.bool true) ∧ TruthIs m (addS S x) w' ∧ w.mapTurned w' m
set_option maxHeartbeats 400000 in
theorem set_any (m : Nat) (S : List Int) (x : Int) (w : World) (h : TruthIs m S w) (hx : okI x) (hl : S.length < 1152921504606846976) : Calls Try.prog 44 #[.map (some m), .int .i64 x] w fun e w' => SetPost m S x w e w' := by
  have hc := Lib.hid (value_any m S x w h hx)
  obtain ⟨w2, hst, ht, hg⟩ := h.store hx hl
  have ht' := Lib.hid ht
  have hg' := Lib.hid hg
  clear h hx ht hg
  by_cases hv : valS S x = -1
  · rw [hv] at hc
    have hv' := Lib.hid hv
    clear hv
    go_enter Try.func44, Try.ntmps44
    go_wp2_with fail
    refine hc.out.mono ?_; rintro e w' ⟨rfl, rfl⟩
    go_wp2
    go_ret
    unfold SetPost
    rw [if_pos hv'.out]
    exact ⟨rfl, rfl⟩
  · have hb : (valS S x == -1) = false := by simpa using hv
    have hv' := Lib.hid hv
    clear hv
    go_enter Try.func44, Try.ntmps44
    go_wp2_with fail
    refine hc.out.mono ?_; rintro e w' ⟨rfl, rfl⟩
    go_wp2
    go_ret
    unfold SetPost
    rw [if_neg hv'.out]
    exact ⟨rfl, ht'.out, hg'.out⟩

/-! ### left -/
theorem eq_of_bne_false {a b : Int} (h : (a != b) = false) : a = b := by simpa using h
def keepL (S : List Int) (x : Int) : Bool := x == 0 || valS S x != -1
def leftK (S : List Int) (xs : List Int) (k : Nat) : List Int := (xs.take k).filter (keepL S)
def leftS (S : List Int) (xs : List Int) : List Int := xs.filter (keepL S)
theorem leftK_all {S xs : List Int} {n : Nat} (h : xs.length = n) : leftK S xs n = leftS S xs := by unfold leftK leftS; rw [← h, List.take_length]
theorem leftK_keep {S xs : List Int} {k : Nat} (hk : k < xs.length) (h : keepL S (nth xs k) = true) : leftK S xs (k + 1) = leftK S xs k ++ [nth xs k] := by
  unfold leftK; rw [take_succ_nth hk, List.filter_append]; simp only [List.filter_cons, h, if_true, List.filter_nil]
theorem leftK_drop {S xs : List Int} {k : Nat} (hk : k < xs.length) (h : keepL S (nth xs k) = false) : leftK S xs (k + 1) = leftK S xs k := by
  unfold leftK; rw [take_succ_nth hk, List.filter_append]; simp only [List.filter_cons, h, Bool.false_eq_true, if_false, List.filter_nil, List.append_nil]
theorem leftK_len (S xs : List Int) (k : Nat) : (leftK S xs k).length ≤ k := by
  unfold leftK; exact Nat.le_trans (List.length_filter_le _ _) (List.length_take_le _ _)
theorem wf_leftS {S xs : List Int} (h : WfI xs) : WfI (leftS S xs) := fun x hx => h x (List.mem_filter.1 hx).1

def LeftPost (S xs : List Int) (w : World) (e : Ending) (w' : World) : Prop :=
  ∃ a c, e = .returned (.slice a (leftS S xs).length c) ∧ RdI w' a (leftS S xs).length (leftS S xs) ∧ (∀ y, a = some y → w.heap.size ≤ y.block) ∧ Below w.heap.size w w'

set_option maxRecDepth 100000 in
set_option maxHeartbeats 1000000 in
theorem left_any (m : Nat) (S : List Int) (a : Option Addr) (n c : Nat) (xs : List Int) (w : World) (h : TruthIs m S w) (hx : RdI w a n xs) (hn : n < 1099511627776) :
    Calls Try.prog 48 #[.slice a n c, .func (.func 47) #[.map (some m)] #[]] w fun e w' => LeftPost S xs w e w' := by
  have h' := Lib.hid h
  have hx' := Lib.hid hx
  have lx := Lib.hid hx.len
  clear h hx
  obtain ⟨i0, hi, hz0, hz1, hz2⟩ := info_parts info_int
  go_enter Try.func48, Try.ntmps48
  go_wp2
  go_loopw [4, 9] (fun v i wr => ∃ k : Nat, k ≤ n ∧ i = .int .i64 k ∧ wr.ownsRow w.heap.size 3 1 v (leftK S xs k).length ((leftK S xs k).map (Value.int .i64)) ∧ Below w.heap.size w wr) (fun _ i _ => n - (intOf i).toNat)
  case atStart => exact ⟨0, Nat.zero_le _, rfl, World.ownsRow_nil _ _ _ _, Below.refl _ _⟩
  case round =>
    obtain ⟨k, hk, rfl, hown, hb⟩ := hrel
    by_cases hlt : k < n
    · have hxw := (hx'.out.below hb (Nat.le_refl _)).at k hlt
      obtain ⟨b1, o1, rfl, h4⟩ := hxw
      have hfl := leftK_len S xs k
      have hown' := Lib.hid hown
      have hb' := Lib.hid hb
      have hsz := hb.size
      have hkx : k < xs.length := by rw [lx.out]; exact hlt
      have hok : okI (nth xs k) := hx'.out.wf _ (nth_mem hkx)
      have hc := Lib.hid (value_any m S (nth xs k) wr (h'.out.below hb) hok)
      clear hown hb hok
      have hdef := @Lib.hid (keepL S (nth xs k) = (nth xs k == 0 || valS S (nth xs k) != -1)) rfl
      cases hne : keepL S (nth xs k)
      · have hst := Lib.hid (leftK_drop hkx hne)
        rw [hne] at hdef
        have h0 : (nth xs k == 0) = false := (Bool.or_eq_false_iff.1 hdef.out.symm).1
        have hvv : valS S (nth xs k) = -1 := by have := hdef.out; rw [h0, Bool.false_or] at this; exact eq_of_bne_false this.symm
        rw [hvv] at hc
        clear hkx hne hvv hdef
        generalize hgx : nth xs k = x at *
        clear hgx
        go_wp2_with fail
        refine hc.out.mono ?_; rintro e w' ⟨rfl, rfl⟩
        go_wp2
        go_roundw
        case rel => exact ⟨k + 1, by omega, by go_num, by rw [hst.out]; exact hown'.out, hb'.out⟩
        case measure => simp [intOf]; omega
      · have hst := Lib.hid (leftK_keep hkx hne)
        rw [hne] at hdef
        cases h0 : (nth xs k == 0)
        · have hvv : (valS S (nth xs k) != -1) = true := by have := hdef.out; rw [h0, Bool.false_or] at this; exact this.symm
          clear hkx hne hdef
          generalize hgv : valS S (nth xs k) = vv at *
          generalize hgx : nth xs k = x at *
          clear hgx hgv
          go_wp2_with fail
          refine hc.out.mono ?_; rintro e w' ⟨rfl, rfl⟩
          go_wp2_with (at_builtin; refine wpList_append_own _ rfl _ _ 22 rfl w.heap.size 3 i0 (.int .i64 0) 1 8 Try.underlying22 hi hz0 hz1 hz2 rfl (by decide) _ _ _ rfl (hown'.out.alloc _) ⟨wr.heap.size, 0, none⟩ 1 1 [.int .i64 x] rfl rfl ?c1 ?c2 ?c3 ?c4 ?c5 ?_)
          case c1 => exact cell_one_new _ _ _
          case c2 => intro u hu; simp at hu; subst hu; rfl
          case c3 => unfold maxLen; omega
          case c4 => omega
          case c5 => simp; omega
          intro v' w1 hown1 hgrow _
          have hres := Lib.hid (own_snoc hown'.out hb'.out (Nat.le_refl _) hsz hown1 hgrow hst.out)
          clear hown1 hgrow
          go_wp2
          go_roundw
          case rel => exact ⟨k + 1, by omega, by go_num, hres.out.1, hres.out.2⟩
          case measure => simp [intOf]; omega
        · clear hkx hne hdef hc
          generalize hgx : nth xs k = x at *
          clear hgx
          go_wp2_with (at_builtin; refine wpList_append_own _ rfl _ _ 22 rfl w.heap.size 3 i0 (.int .i64 0) 1 8 Try.underlying22 hi hz0 hz1 hz2 rfl (by decide) _ _ _ rfl (hown'.out.alloc _) ⟨wr.heap.size, 0, none⟩ 1 1 [.int .i64 x] rfl rfl ?d1 ?d2 ?d3 ?d4 ?d5 ?_)
          case d1 => exact cell_one_new _ _ _
          case d2 => intro u hu; simp at hu; subst hu; rfl
          case d3 => unfold maxLen; omega
          case d4 => omega
          case d5 => simp; omega
          intro v' w1 hown1 hgrow _
          have hres := Lib.hid (own_snoc hown'.out hb'.out (Nat.le_refl _) hsz hown1 hgrow hst.out)
          clear hown1 hgrow
          go_wp2
          go_roundw
          case rel => exact ⟨k + 1, by omega, by go_num, hres.out.1, hres.out.2⟩
          case measure => simp [intOf]; omega
    · obtain rfl : k = n := by omega
      rw [leftK_all lx.out] at hown
      obtain ⟨a3, c3, rfl, _⟩ := hown.slice
      have hrd := Lib.hid (RdI.own hown (wf_leftS hx'.out.wf))
      have hb' := Lib.hid hb
      clear hown hb
      generalize hL : (leftS S xs).length = L at *
      have hL' := Lib.hid hL
      clear hL
      go_wp2
      go_ret
      exact ⟨a3, c3, by rw [hL'.out]; rfl, by rw [hL'.out]; exact hrd.out.2.1, fun y hy => (hrd.out.2.2 y hy).1, hb'.out⟩
end Go.Proofs.Ytdmnpjlgldlodaa
