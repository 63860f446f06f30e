/-
  sorts: the order of names; a row of functions behind slices.SortFunc; Funs. Conditions: a table in memory of fewer than 2^40 entries, each function of fewer than 2^40 sorts.
-/
import Derived.Test.YtpkajhmgkmkcgaaDoorSE
namespace Go.Proofs.YtpkajhmgkmkcgaaDoor
open Go.RowKit Go.Sort Go.Lib
variable {X : Nat → Prop}

def ltS (a b : ByteArray) : Bool := Op.bytesLess a.toList b.toList
theorem bytesLess_lt : ∀ (x y : List UInt8), Op.bytesLess x y = ltStr x y
  | [], [] => by simp [Op.bytesLess, ltStr]
  | _ :: _, [] => by simp [Op.bytesLess, ltStr]
  | [], _ :: _ => by simp [Op.bytesLess, ltStr]
  | a :: x, b :: y => by
    rw [Op.bytesLess, bytesLess_lt x y]
    unfold ltStr
    simp only [List.cons_lt_cons_iff]
    by_cases h1 : a < b <;> by_cases h2 : a = b <;> by_cases h3 : x < y <;> simp [h1, h2, h3]
theorem bytesLess_tot : ∀ {x y : List UInt8}, Op.bytesLess x y = false → Op.bytesLess y x = false → x = y
  | [], [], _, _ => rfl
  | _ :: _, [], _, h => by simp [Op.bytesLess] at h
  | [], _ :: _, h, _ => by simp [Op.bytesLess] at h
  | a :: x, b :: y, h1, h2 => by
    rw [bytesLess_lt] at h1 h2
    unfold ltStr at h1 h2
    simp only [List.cons_lt_cons_iff, decide_eq_false_iff_not, not_or, not_and] at h1 h2
    have hab : a = b := by
      have p1 := h1.1
      have p2 := h2.1
      rw [UInt8.lt_iff_toNat_lt] at p1 p2
      exact UInt8.toNat_inj.1 (by omega)
    subst hab
    have := bytesLess_tot (x := x) (y := y) (by rw [bytesLess_lt]; unfold ltStr; simpa using h1.2 rfl) (by rw [bytesLess_lt]; unfold ltStr; simpa using h2.2 rfl)
    rw [this]
theorem ltS_eq (a b : ByteArray) : ltS a b = ltStr a.toList b.toList := bytesLess_lt _ _
def compS (a b : ByteArray) : Int := if ltS a b then -1 else if ltS b a then 1 else 0
theorem ltS_asymm {a b : ByteArray} (h : ltS a b = true) : ltS b a = false := by
  rw [ltS_eq] at *
  cases hb : ltStr b.toList a.toList
  · rfl
  · have := swo_ltStr.trans _ _ _ h hb
    rw [swo_ltStr.irrefl] at this; cases this
theorem isNaN_any (x : ByteArray) (w : World) : Calls Tryd.prog 52 #[.string x] w fun e w' => e = .returned (.bool false) ∧ w = w' := by
  go_enter Tryd.func52, Tryd.ntmps52
  go_wp2
  go_ret
  exact ⟨by simp, rfl⟩
set_option maxHeartbeats 400000 in
theorem compS_any (a b : ByteArray) (w : World) : Calls Tryd.prog 43 #[.string a, .string b] w fun e w' => e = .returned (.int .i64 (compS a b)) ∧ w = w' := by
  have hd := @Lib.hid (compS a b = if ltS a b then -1 else if ltS b a then 1 else 0) rfl
  have e1 : Op.bytesLess a.toList b.toList = ltS a b := rfl
  have e2 : Op.bytesLess b.toList a.toList = ltS b a := rfl
  cases h1 : ltS a b
  · cases he : (a.toList == b.toList)
    · have h2 : ltS b a = true := by
        cases h2 : ltS b a
        · have := bytesLess_tot h1 h2
          rw [this] at he
          simp at he
        · rfl
      have hv := @Lib.hid (compS a b = 1) (by rw [hd.out, h1, h2]; rfl)
      rw [h1] at e1
      rw [h2] at e2
      have he2 : (!a.toList == b.toList) = true := by rw [he]; rfl
      clear h1 h2 hd
      go_enter Tryd.func43, Tryd.ntmps43
      go_wp2_with (go_at_call 52; refine (isNaN_any _ _).mono ?_; rintro e w' ⟨rfl, rfl⟩)
      go_ret
      exact ⟨ret_int hv.out.symm, rfl⟩
    · have h2 : ltS b a = false := by
        rw [ltS_eq, show a.toList = b.toList by simpa using he]
        exact swo_ltStr.irrefl _
      have hv := @Lib.hid (compS a b = 0) (by rw [hd.out, h1, h2]; rfl)
      rw [h1] at e1
      rw [h2] at e2
      have he2 : (!a.toList == b.toList) = false := by rw [he]; rfl
      clear h1 h2 hd
      go_enter Tryd.func43, Tryd.ntmps43
      go_wp2_with (go_at_call 52; refine (isNaN_any _ _).mono ?_; rintro e w' ⟨rfl, rfl⟩)
      go_ret
      exact ⟨ret_int hv.out.symm, rfl⟩
  · have hv := @Lib.hid (compS a b = -1) (by rw [hd.out, h1]; rfl)
    rw [h1] at e1
    clear h1 hd
    go_enter Tryd.func43, Tryd.ntmps43
    go_wp2_with (go_at_call 52; refine (isNaN_any _ _).mono ?_; rintro e w' ⟨rfl, rfl⟩)
    go_ret
    exact ⟨ret_int hv.out.symm, rfl⟩
theorem grow2 (w : World) (a b : Obj) : (w.alloc a).alloc b = grow (w.drewN 0) #[a, b] := rfl
set_option maxHeartbeats 400000 in
/-- the closure of Funs -/
theorem byName_any (n1 n2 : ByteArray) (a1 a2 : Option Addr) (m1 c1 m2 c2 : Nat) (r1 r2 : Int) (w : World) :
    Calls Tryd.prog 42 #[funV n1 a1 m1 c1 r1, funV n2 a2 m2 c2 r2] w fun e w' => e = .returned (.int .i64 (compS n1 n2)) ∧ ∃ q os, w' = grow (w.drewN q) os := by
  go_enter Tryd.func42, Tryd.ntmps42
  go_wp2_with fail
  refine (compS_any n1 n2 _).mono ?_; rintro e w' ⟨rfl, rfl⟩
  go_wp2
  go_ret
  exact ⟨rfl, 0, _, grow2 w _ _⟩

/-! ### a row of functions -/
structure RowF where
  f : FunD
  a : Option Addr
  n : Nat
  c : Nat
instance : Inhabited RowF := ⟨⟨noFun, none, 0, 0⟩⟩
def encF (x : RowF) : List Value := [.string x.f.name, .slice x.a x.n x.c, .int .i64 x.f.res]
def RowOk (S : Nat → Prop) (w : World) (x : RowF) : Prop := x.n ≤ x.c ∧ x.c ≤ maxLen ∧ SlR Rep.int S w x.a x.n x.f.args ∧ okI x.f.res
theorem rows_of {S : Nat → Prop} {w : World} : ∀ {fs : List FunD} {css : List (List Value)}, css.length = fs.length → (∀ (j : Nat) (x : FunD), fs[j]? = some x → ∃ cs, css[j]? = some cs ∧ repF.rd S w x cs) → ∃ rs : List RowF, rs.map (·.f) = fs ∧ rs.map encF = css ∧ ∀ r ∈ rs, RowOk S w r
  | [], css, hl, _ => ⟨[], rfl, (List.eq_nil_of_length_eq_zero hl).symm, by simp⟩
  | f :: fs, [], hl, _ => by simp at hl
  | f :: fs, cs :: css, hl, h => by
    obtain ⟨rs, h1, h2, h3⟩ := rows_of (fs := fs) (css := css) (by simpa using hl) (fun j x hx => by simpa using h (j + 1) x (by simpa using hx))
    obtain ⟨cs', e, hr⟩ := h 0 f rfl
    simp at e
    subst e
    obtain ⟨a, n, c, rfl, g1, g2, g3, g4⟩ := repF_rd.1 hr
    refine ⟨⟨f, a, n, c⟩ :: rs, by simp [h1], by simp [h2, encF], fun r hr => ?_⟩
    rcases List.mem_cons.1 hr with rfl | hr
    · exact ⟨g1, g2, g3, g4⟩
    · exact h3 r hr
theorem flat_rows (rs : List RowF) : (flatK encF 3 rs.toArray).toList = (rs.map encF).flatten := by
  apply List.ext_getElem?
  intro t
  have hl : ((rs.map encF).flatten).length = rs.length * 3 := by
    induction rs with
    | nil => rfl
    | cons r rs ih => rw [List.map_cons, List.flatten_cons, List.length_append, ih]; simp [encF]; omega
  by_cases ht : t < rs.length * 3
  · have hj : t / 3 < rs.length := by omega
    have hi : t % 3 < 3 := Nat.mod_lt _ (by omega)
    have h1 := flat_at (k := 3) (css := rs.map encF) (fun cs hc => by obtain ⟨r, _, rfl⟩ := List.mem_map.1 hc; rfl) (j := t / 3) (cs := encF rs[t / 3]) (by simp [hj]) (i := t % 3) (u := (encF rs[t / 3])[t % 3]'(by simp [encF]; omega)) (List.getElem?_eq_getElem _)
    rw [show t / 3 * 3 + t % 3 = t by omega] at h1
    rw [h1]
    have h2 := get_flatK encF 3 rs.toArray t (by simpa using ht)
    have hsz : t < (flatK encF 3 rs.toArray).size := by simpa using ht
    rw [Array.getElem?_toList, Array.getElem?_eq_getElem hsz]
    rw [getElem!_pos (flatK encF 3 rs.toArray) t hsz] at h2
    rw [h2]
    congr 1
    rw [getElem!_pos rs.toArray (t / 3) (by simpa using hj)]
    rw [getElem!_pos (encF rs.toArray[t / 3]) (t % 3) (by simp [encF]; omega)]
    simp
  · rw [List.getElem?_eq_none (by simp; omega), List.getElem?_eq_none (by omega)]
theorem takeF_putCells (cur F : Array Value) (h : F.size ≤ cur.size) : (putCells id 0 F cur).toList.take F.size = F.toList := by
  apply List.ext_getElem?
  intro j
  by_cases hj : j < F.size
  · rw [List.getElem?_take_of_lt hj, Array.getElem?_toList, Array.getElem?_toList]
    simp [putCells, hj, show j < cur.size by omega]
  · rw [List.getElem?_take_eq_none (by omega), List.getElem?_eq_none (by simp; omega)]
theorem heapF_sorted {w : World} {g n : Nat} {os : Array Obj} {cur : Array Value} {e : TypeId} {fr : Nat × Nat} (F : Array Value) (hb : w.heap[g]? = some (.cells cur e fr)) :
    (grow (putRow id (Sort.ahead w n) g 0 F) os).heap[g]? = some (.cells (putCells id 0 F cur) e fr) := by
  have hg : g < w.heap.size := (Array.getElem?_eq_some_iff.1 hb).1
  rw [heap_grow_old _ _ (by simpa using hg)]
  simp [putRow, mapBlock, Sort.ahead, Array.getElem?_modify, hb, onCells]
theorem grownByF_sorted {w : World} {g n : Nat} {os : Array Obj} (F : Array Value) : w.grownBy (grow (putRow id (Sort.ahead w n) g 0 F) os) (some g) := by
  refine ⟨rfl, rfl, rfl, by simp, fun k hk hne => ?_⟩
  rw [heap_grow_old _ _ (by simpa using hk)]
  have : g ≠ k := fun e => hne (by rw [e])
  simp [putRow, mapBlock, Sort.ahead, Array.getElem?_modify, this]
def cfF (x y : RowF) : Int := compS x.f.name y.f.name
theorem lt_cfF (x y : RowF) : ltOf cfF x y = ltStr x.f.name.toList y.f.name.toList := by
  rw [← ltS_eq]
  unfold ltOf cfF compS
  cases h1 : ltS x.f.name y.f.name
  · cases h2 : ltS y.f.name x.f.name <;> rfl
  · rfl
theorem swoF : SWO (ltOf cfF) where
  irrefl x := by rw [lt_cfF]; exact swo_ltStr.irrefl _
  trans x y z h1 h2 := by rw [lt_cfF] at *; exact swo_ltStr.trans _ _ _ h1 h2
  ntrans x y z h1 h2 := by rw [lt_cfF] at *; exact swo_ltStr.ntrans _ _ _ h1 h2
/-- in the order of names -/
def ByName (gs : List FunD) : Prop := gs.Pairwise fun a b => ltS b.name a.name = false
theorem sortF_any {base : Nat} (a : Option Addr) (n c : Nat) (fs : List FunD) (w : World) (ho : OwnR repF (IntX X w) w base 32 (.slice a n c) fs) (hn : n < 17592186044416) :
    Calls Tryd.prog 41 #[.slice a n c, .func (.func 42) #[] #[]] w fun e w' =>
      e = .returned (.tuple #[]) ∧ ∃ gs, gs.Perm fs ∧ ByName gs ∧ OwnR repF (IntX X w) w' base 32 (.slice a n c) gs ∧ w.grownBy w' (Value.ownBlock (.slice a n c)) := by
  obtain ⟨css, oc, ol, oe⟩ := ho
  obtain ⟨a', c', hv, _⟩ := oc.slice
  cases hv
  obtain ⟨rs, hr1, hr2, hr3⟩ := rows_of ol oe
  have hrl : rs.length = fs.length := by rw [← hr1, List.length_map]
  have eg : ∀ args w, (callFunc 42 args).run Tryd.prog w = .ok (.enter 42 args) w := enters_of Tryd.func42 (by kernel_rfl) rfl
  rcases oc.2 with ⟨hv, h0⟩ | ⟨g, cap, cur, hv, hg, hh, h1, h2, h3, h4⟩
  · have hfs : fs = [] := List.eq_nil_of_length_eq_zero h0
    subst hfs
    rw [show ([] : List FunD).length = 0 from rfl]
    refine (AnyF.slices_SortFunc_none Tryd.laysSort41 a c _ w).mono ?_
    rintro e w' ⟨he, rfl⟩
    exact ⟨he, [], List.Perm.refl _, List.Pairwise.nil, ⟨css, oc, ol, oe⟩, ⟨rfl, rfl, rfl, Nat.le_refl _, fun _ _ _ => rfl⟩⟩
  · cases hv
    have hlt := (Array.getElem?_eq_some_iff.1 hh).1
    have hfl : (flatK encF 3 rs.toArray).toList = css.flatten := by rw [flat_rows, hr2]
    have hcmp : CmpLays Tryd.prog 42 #[] encF 3 cfF g 0 rs.toArray.size w := fun m os dk hs x y => byName_any x.f.name y.f.name x.a y.a x.n x.c y.n y.c x.f.res y.f.res _
    have hH : HoldsK encF 3 w g 0 rs.toArray := fun t ht => by
      have h5 := oc.cells (g := g) rfl t ((flatK encF 3 rs.toArray)[t]!) (by rw [← hfl, Array.getElem?_toList, Array.getElem?_eq_getElem ht, getElem!_pos (flatK encF 3 rs.toArray) t ht])
      rw [Nat.zero_add]
      exact ⟨h5, by simp [World.frozen?, hh]⟩
    have hS := AnyQ.slices_SortFunc Tryd.laysSort41 3 Tryd.isAgg32 Tryd.sizeOf32 encF (fun _ => rfl) (fun x v hv => by simp [encF] at hv; rcases hv with rfl | rfl | rfl <;> rfl) cfF swoF 42 #[] g 0 c rs.toArray w eg hcmp hH hlt (by simp; omega)
    have e1 : rs.toArray.size = fs.length := by simpa using hrl
    rw [e1] at hS
    refine hS.mono ?_
    rintro e w' ⟨he, d', m, os, hp, hs, rfl⟩
    have hd : d'.size = fs.length := hp.1.trans e1
    have hperm : d'.toList.Perm rs := by
      have := hp.2.2
      rw [← hd, show d'.extract 0 d'.size = d' by simp, hd, ← e1] at this
      simpa using this
    have hgs : (d'.toList.map (·.f)).length = fs.length := by simpa using hd
    refine ⟨he, d'.toList.map (·.f), by rw [← hr1]; exact hperm.map _, ?_, ⟨d'.toList.map encF, ?_, by simp, fun j x hx => ?_⟩, grownByF_sorted _⟩
    · unfold ByName
      rw [List.pairwise_map, List.pairwise_iff_getElem]
      intro i j hi hj hij
      have := hs i j (Nat.zero_le _) hij (by have : j < d'.size := by simpa using hj
                                             omega)
      rw [lt_cfF, ← ltS_eq, getElem!_pos d' j (by simpa using hj), getElem!_pos d' i (by simpa using hi)] at this
      simpa using this
    · rw [hgs]
      have hfd := flat_rows d'.toList
      simp only [Array.toArray_toList] at hfd
      have hFs : (flatK encF 3 d').size = fs.length * 3 := by simp [hd]
      refine ⟨by rw [← hfd, repF_k, ← hFs]; simp, .inr ⟨g, c, _, rfl, hg, heapF_sorted _ hh, h1, h2, by simpa [putCells] using h3, ?_⟩⟩
      have := takeF_putCells cur (flatK encF 3 d') (by rw [hFs]; exact Nat.le_trans (Nat.mul_le_mul_right _ h1) h3)
      rw [← hfd, repF_k, ← hFs]
      exact this
    · rw [List.getElem?_map] at hx
      obtain ⟨r, hr, rfl⟩ := Option.map_eq_some_iff.1 hx
      have hrm : r ∈ rs := hperm.mem_iff.1 (List.mem_of_getElem? hr)
      obtain ⟨q1, q2, q3, q4⟩ := hr3 r hrm
      refine ⟨encF r, by rw [List.getElem?_map, hr]; rfl, repF_rd.2 ⟨r.a, r.n, r.c, rfl, q1, q2, q3.keep (fun b hlt hb => ?_) (grownByF_sorted _).size, q4⟩⟩
      exact (grownByF_sorted _).block b hlt (fun e => by
        injection e with e
        subst e
        exact ty_ne (by decide) ⟨_, _, hh⟩ hb.2)
end Go.Proofs.YtpkajhmgkmkcgaaDoor
