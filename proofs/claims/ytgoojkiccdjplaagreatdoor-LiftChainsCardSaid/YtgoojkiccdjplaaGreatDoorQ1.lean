/-
  Parts of this claim's texts, one behind the other: V O G SA SB SC SD SE SF SG TT TU MS YA YB YC YD YE YF YG YH YI YJ. No condition.
-/
import Derived.WalkKit
import Derived.WalkSpells
import Derived.WalkLawsBesides
import Derived.Lib.Hide
import Derived.Lib.RowBridge
import Derived.Sort.Grow
import Derived.Deep.Draws
import Derived.StillTailTactics
import Derived.Deep.RegionHeld3
import Derived.Deep.AppendLies
import Derived.ProofKit
import Derived.OpenShut
import Derived.ShutString
import Derived.ChangeOld
import Derived.Deep.Grids
import Derived.ArgAppend
import Derived.Maps.AppendAt
import Derived.Test.YtgoojkiccdjplaaGreatDoorRows
import Derived.Test.YtgoojkiccdjplaaGreatDoorQ0
import Derived.Deep.QuietTactic
import Derived.BigQuiet
import Derived.Deep.RegionHeld
import Derived.StillTail
import Derived.Maps.OwnSet
import Derived.StringKeys
import Derived.Lib.Builder
import Derived.Lib.AppendStr
import Derived.Lib.UnsafeStr
import Derived.Laws.Externs
import Derived.Lib.PrintData
import Derived.Lib.ItoaLen
import Derived.Lib.QuoteLoop
set_option linter.unusedVariables false
set_option linter.unusedSimpArgs false
set_option maxRecDepth 100000
set_option maxHeartbeats 16000000
namespace Go.RowKit
theorem Below.drewN {B:Nat} {a w:World} (h:Below B a w) (q:Nat):Below B a (w.drewN q):=⟨h.os,h.tape,h.output,h.size,h.block⟩
end Go.RowKit
namespace Go.RowKit
theorem Hid.o {p : Prop} (h : Hid p) : p := h
end Go.RowKit
namespace Go.Proofs.YtgoojkiccdjplaaGreatDoor
open Go.RowKit Go.Sort Go.Lib Go.Proofs.Tryz
theorem sA {α:Type _} (l:List α) (i:Nat) (a:α):l.toArray.setIfInBounds i a=(l.set i a).toArray:=List.setIfInBounds_toArray l i a
theorem sB {α:Type _} {x:α} {xs:List α} {a:α}:(x :: xs).set 0 a=a :: xs:=rfl
theorem sC {α:Type _} {x:α} {xs:List α} {i:Nat} {a:α}:(x :: xs).set (i+1) a=x :: xs.set i a:=rfl
theorem aA {n:Nat}:n<=n:=Nat.le_refl n
theorem aN {n:Nat}:0<=n:=Nat.zero_le n
theorem aH {a b c:Nat} (h:a<=b) (j:b<=c):a<=c:=Nat.le_trans h j
theorem bG {a b c:Nat} (h:a<b) (j:b<=c):a<c:=Nat.lt_of_lt_of_le h j
theorem bH {α:Type _} {xs:Array α} {i:Nat} {x:α} (h:xs[i]? = some x):∃h:i<xs.size,xs[i]=x:=Array.getElem?_eq_some_iff.1 h
theorem dW {α:Type _} {l:List α} {i:Nat}:l.toArray[i]? = l[i]?:=List.getElem?_toArray
theorem fF {α:Type _} {a:α} {l:List α} {i:Nat}:(a :: l)[i+1]? = l[i]?:=rfl
theorem dS {α:Type _} {a:α} {l:List α}:(a :: l)[0]? = some a:=rfl
theorem dL {α:Type _} {x:α} {xs:List α} {i:Nat}:(x :: xs).drop (i+1)=xs.drop i:=rfl
theorem cW {α:Type _} {l:List α}:l.drop 0=l:=rfl
theorem Z {p:Prop} (h:p):Hid p:=h
theorem aG {w w' w'':World} (h:Hid (Below w.heap.size w w')) (k:Below w'.heap.size w' w''):Below w.heap.size w w'':=h.out.trans (k.mono h.out.size)
theorem bD {w w':World} {q:Nat} {o:Obj} (h:Below w.heap.size w w') (k:w.heap[q]? = some o):w'.heap[q]? = some o:=(h.block _ (Array.getElem?_eq_some_iff.1 k).1).trans k
theorem bJ {w:World} {o:Obj}:Below w.heap.size w (w.alloc o):=(Below.refl _ _).alloc (Nat.le_refl _) _
theorem kE {w:World} {p:Nat} {j v1:Value} {l:List Value} {t:TypeId} {f:Nat × Nat} (h:w.heap[p]? = some (.cells (j :: v1 :: l).toArray t f)):w.cell? ⟨p,0,none⟩=some j/\w.cell? ⟨p,1,none⟩=some v1:=⟨by simp [World.cell?,h],by simp [World.cell?,h]⟩
theorem kX {w:World} {p:Nat} {cs:Array Value} {t:TypeId} (h:w.heap[p]? = some (.cells cs t (0,0))):w.frozen? ⟨p,0,none⟩=false/\w.frozen? ⟨p,1,none⟩=false:=⟨by simp [World.frozen?,h],by simp [World.frozen?,h]⟩
theorem eH {w:World} {p:Nat} {j v1 v2:Value} {l:List Value} {t:TypeId} {f:Nat × Nat} (h:w.heap[p]? = some (.cells (j :: v1 :: v2 :: l).toArray t f)):w.cell? ⟨p,0,none⟩=some j/\w.cell? ⟨p,1,none⟩=some v1/\w.cell? ⟨p,2,none⟩=some v2:=⟨by simp [World.cell?,h],by simp [World.cell?,h],by simp [World.cell?,h]⟩
theorem gB {w:World} {p:Nat} {cs:Array Value} {t:TypeId} (h:w.heap[p]? = some (.cells cs t (0,0))):w.frozen? ⟨p,0,none⟩=false/\w.frozen? ⟨p,1,none⟩=false/\w.frozen? ⟨p,2,none⟩=false:=⟨by simp [World.frozen?,h],by simp [World.frozen?,h],by simp [World.frozen?,h]⟩
theorem aYd {w:World} {p:Nat} {j v1 v2 v3:Value} {l:List Value} {t:TypeId} {f:Nat × Nat} (h:w.heap[p]? = some (.cells (j :: v1 :: v2 :: v3 :: l).toArray t f)):w.cell? ⟨p,0,none⟩=some j/\w.cell? ⟨p,1,none⟩=some v1/\w.cell? ⟨p,2,none⟩=some v2/\w.cell? ⟨p,3,none⟩=some v3:=⟨by simp [World.cell?,h],by simp [World.cell?,h],by simp [World.cell?,h],by simp [World.cell?,h]⟩
theorem aYe {w:World} {p:Nat} {cs:Array Value} {t:TypeId} (h:w.heap[p]? = some (.cells cs t (0,0))):w.frozen? ⟨p,0,none⟩=false/\w.frozen? ⟨p,1,none⟩=false/\w.frozen? ⟨p,2,none⟩=false/\w.frozen? ⟨p,3,none⟩=false:=⟨by simp [World.frozen?,h],by simp [World.frozen?,h],by simp [World.frozen?,h],by simp [World.frozen?,h]⟩
theorem aYf {w:World} {p:Nat} {j v1 v2 v3 r:Value} {l:List Value} {t:TypeId} {f:Nat × Nat} (h:w.heap[p]? = some (.cells (j :: v1 :: v2 :: v3 :: r :: l).toArray t f)):w.cell? ⟨p,0,none⟩=some j/\w.cell? ⟨p,1,none⟩=some v1/\w.cell? ⟨p,2,none⟩=some v2/\w.cell? ⟨p,3,none⟩=some v3/\w.cell? ⟨p,4,none⟩=some r:=⟨by simp [World.cell?,h],by simp [World.cell?,h],by simp [World.cell?,h],by simp [World.cell?,h],by simp [World.cell?,h]⟩
theorem aYg {w:World} {p:Nat} {cs:Array Value} {t:TypeId} (h:w.heap[p]? = some (.cells cs t (0,0))):w.frozen? ⟨p,0,none⟩=false/\w.frozen? ⟨p,1,none⟩=false/\w.frozen? ⟨p,2,none⟩=false/\w.frozen? ⟨p,3,none⟩=false/\w.frozen? ⟨p,4,none⟩=false:=⟨by simp [World.frozen?,h],by simp [World.frozen?,h],by simp [World.frozen?,h],by simp [World.frozen?,h],by simp [World.frozen?,h]⟩
theorem gC {w:World} {p:Nat} {j v1 v2 v3 r y:Value} {l:List Value} {t:TypeId} {f:Nat × Nat} (h:w.heap[p]? = some (.cells (j :: v1 :: v2 :: v3 :: r :: y :: l).toArray t f)):w.cell? ⟨p,0,none⟩=some j/\w.cell? ⟨p,1,none⟩=some v1/\w.cell? ⟨p,2,none⟩=some v2/\w.cell? ⟨p,3,none⟩=some v3/\w.cell? ⟨p,4,none⟩=some r/\w.cell? ⟨p,5,none⟩=some y:=⟨by simp [World.cell?,h],by simp [World.cell?,h],by simp [World.cell?,h],by simp [World.cell?,h],by simp [World.cell?,h],by simp [World.cell?,h]⟩
theorem jC {w:World} {p:Nat} {cs:Array Value} {t:TypeId} (h:w.heap[p]? = some (.cells cs t (0,0))):w.frozen? ⟨p,0,none⟩=false/\w.frozen? ⟨p,1,none⟩=false/\w.frozen? ⟨p,2,none⟩=false/\w.frozen? ⟨p,3,none⟩=false/\w.frozen? ⟨p,4,none⟩=false/\w.frozen? ⟨p,5,none⟩=false:=⟨by simp [World.frozen?,h],by simp [World.frozen?,h],by simp [World.frozen?,h],by simp [World.frozen?,h],by simp [World.frozen?,h],by simp [World.frozen?,h]⟩
theorem pT {w:World} {p:Nat} {j v1 v2 v3 r y C:Value} {l:List Value} {t:TypeId} {f:Nat × Nat} (h:w.heap[p]? = some (.cells (j :: v1 :: v2 :: v3 :: r :: y :: C :: l).toArray t f)):w.cell? ⟨p,0,none⟩=some j/\w.cell? ⟨p,1,none⟩=some v1/\w.cell? ⟨p,2,none⟩=some v2/\w.cell? ⟨p,3,none⟩=some v3/\w.cell? ⟨p,4,none⟩=some r/\w.cell? ⟨p,5,none⟩=some y/\w.cell? ⟨p,6,none⟩=some C:=⟨by simp [World.cell?,h],by simp [World.cell?,h],by simp [World.cell?,h],by simp [World.cell?,h],by simp [World.cell?,h],by simp [World.cell?,h],by simp [World.cell?,h]⟩
theorem aWj {w:World} {p:Nat} {cs:Array Value} {t:TypeId} (h:w.heap[p]? = some (.cells cs t (0,0))):w.frozen? ⟨p,0,none⟩=false/\w.frozen? ⟨p,1,none⟩=false/\w.frozen? ⟨p,2,none⟩=false/\w.frozen? ⟨p,3,none⟩=false/\w.frozen? ⟨p,4,none⟩=false/\w.frozen? ⟨p,5,none⟩=false/\w.frozen? ⟨p,6,none⟩=false:=⟨by simp [World.frozen?,h],by simp [World.frozen?,h],by simp [World.frozen?,h],by simp [World.frozen?,h],by simp [World.frozen?,h],by simp [World.frozen?,h],by simp [World.frozen?,h]⟩
abbrev aR := @decide_eq_false
abbrev cK := @List.getElem?_eq_getElem
abbrev aO := @Below.refl
abbrev bV := @decide_eq_true
abbrev cC := @heap_alloc_new
abbrev aT := @Lib.hid
abbrev fK := @Int.eq_ofNat_of_zero_le
abbrev fL := @List.take_of_length_le
abbrev gK := @List.getElem?_eq_some_iff
abbrev fP := @List.mem_of_getElem?
abbrev cD := @Nat.le_of_eq
abbrev dM := @List.length_append
abbrev jD := @List.take_succ_eq_append_getElem
abbrev dZ := @Below.heap_setCell
abbrev cN := @Nat.mul_add
abbrev cU := @Nat.add_zero
abbrev eP := @List.mem_singleton
abbrev iW := @List.getD_eq_getElem?_getD
abbrev jR := @List.eq_nil_of_length_eq_zero
abbrev eS := @List.length_take
abbrev dK := @Nat.mul_comm
abbrev fB := @Below.heap_alloc
abbrev dT := @Nat.zero_add
abbrev gD := @Nat.eq_zero_or_pos
abbrev iN := @Array.getElem?_modify
abbrev fQ := @List.length_cons
abbrev gU := @List.getElem_of_mem
abbrev eT := @Bool.true_and
abbrev eU := @Nat.mul_assoc
abbrev fT := @List.mem_append
abbrev kY := @List.drop_eq_getElem_cons
abbrev iD := @World.size_alloc
abbrev kF := @Nat.mul_le_mul_right
abbrev kO := @World.cell?_alloc_new
abbrev mK := @List.mem_of_find?_eq_some
abbrev iE := @List.nil_append
abbrev fC := @Nat.add_mul
abbrev kZ := @List.length_singleton
abbrev jM := @List.append_assoc
abbrev mY := @List.getElem?_append_left
abbrev gM := @Nat.le_of_lt
abbrev jS := @Bool.and_eq_true
abbrev oS := @List.getElem?_append_right
abbrev kP := @World.drewN_drewN
abbrev lU := @Nat.mul_le_mul_left
abbrev iF := @Nat.pow_succ
abbrev fU := @Below.size
abbrev lA := @decide_eq_true_eq
abbrev kQ := @List.length_drop
abbrev lW := @Nat.lt_of_le_of_lt
abbrev gN := @Nat.mod_lt
abbrev lY := @Nat.mod_eq_of_lt
abbrev lB := @List.length_map
abbrev lC := @Nat.mod_add_div
abbrev kR := @Bool.false_and
abbrev pU := @List.drop_of_length_le
abbrev lZ := @List.append_nil
abbrev mA := @Nat.two_pow_pos
abbrev mZ := @List.getElem?_map
abbrev jN := @Nat.mul_one
abbrev mL := @List.map_append
abbrev nA := @List.take_length
abbrev pV := @List.mem_of_mem_drop
abbrev pW := @Nat.pow_le_pow_right
abbrev jT := @Nat.pow_add
abbrev sS := @List.getElem?_take_of_lt
abbrev mB := @List.mem_cons
abbrev nM := @Nat.div_eq_of_lt
abbrev lD := @Addr.add_lit
abbrev oT := @List.any_eq_false
abbrev oU := @of_decide_eq_true
abbrev xH := @Array.getElem?_setIfInBounds
abbrev nN := @List.length_set
abbrev oV := @List.all_eq_true
abbrev oW := @List.any_eq_true
abbrev sW := @List.set_append_right
abbrev pX := @Int.toNat_natCast
abbrev pY := @List.flatMap_cons
abbrev uK := @World.block_lt_of_cell?
abbrev nB := @Nat.add_assoc
abbrev sY := @List.mem_of_mem_take
abbrev sZ := @World.cell?_of_block
abbrev oX := @Nat.not_lt_zero
abbrev rH := @Nat.add_sub_cancel
abbrev mC := @Nat.one_mul
abbrev pZ := @Nat.min_eq_left
abbrev uL := @List.mem_cons_of_mem
abbrev nO := @Nat.mul_zero
abbrev aAp := @Int.tdiv_eq_ediv_of_nonneg
abbrev tA := @Bool.not_eq_true'
abbrev aAq := @Nat.add_mul_mod_self_left
abbrev aC7 := @Array.eq_empty_of_size_eq_zero
abbrev xI := @Nat.le_div_iff_mul_le
abbrev xJ := @List.take_append_drop
abbrev tB := @IntKind.wrap_u64
abbrev oY := @Nat.sub_self
abbrev tC := @Nat.div_le_self
abbrev tD := @List.foldl_cons
abbrev qA := @List.mem_map
abbrev aC8 := @Int.tmod_eq_emod_of_nonneg
abbrev qS := @List.getElem_mem
abbrev vI := @Array.getElem?_toList
abbrev tE := @List.getElem?_drop
abbrev vJ := @List.getElem?_eq_none
abbrev pJ := @List.foldl_nil
abbrev yK := @Nat.lt_of_mul_lt_mul_left
abbrev nW := @Nat.zero_mul
abbrev nZ := @Nat.lt_or_ge
abbrev qT := @Nat.div_add_mod
abbrev vK := @Nat.div_lt_of_lt_mul
abbrev oB := @Nat.add_comm
abbrev yL := @Array.size_setIfInBounds
abbrev tF := @List.getElem_drop
abbrev tG := @List.drop_length
abbrev tH := @List.cons_append
abbrev qU := @Bool.and_assoc
abbrev qV := @IntWalk.i64_in
abbrev vL := @Option.isSome_none
abbrev vM := @Bool.false_eq_true
abbrev pK := @Nat.lt_trans
abbrev aCb := @Nat.mul_lt_mul_of_pos_right
abbrev tI := @List.find?_some
abbrev yM := @Nat.div_lt_iff_lt_mul
abbrev tJ := @Lib.toList_data
abbrev tK := @Option.some.inj
abbrev aCc := @Nat.lt_of_mul_lt_mul_right
abbrev vN := @List.foldl_append
abbrev yN := @Bool.or_eq_false_iff
abbrev vO := @IntKind.wrap_i64
abbrev yO := @List.take_succ_cons
abbrev yP := @List.replicate_succ
abbrev yQ := @beq_eq_false_iff_ne
abbrev aCd := @World.cell?_setCell_far
abbrev lN := @Ne.symm
abbrev yR := @List.find?_eq_none
abbrev vP := @Lib.ownBlock_ne
abbrev yS := @List.set_cons_zero
abbrev yT := @List.mem_cons_self
abbrev aCe := @Option.map_eq_some_iff
abbrev aCf := @List.getElem?_set_self
abbrev qW := @Nat.mul_pos
abbrev yU := @World.ownsRow_nil
abbrev yV := @List.flatten_cons
abbrev vQ := @List.take_zero
abbrev aCg := @ByteArray.size_append
abbrev aCh := @Nat.mul_mod_mul_right
abbrev aCi := @Array.size_replicate
abbrev yW := @Option.getD_some
abbrev aCj := @Nat.add_mul_div_left
abbrev yX := @Nat.le_add_right
abbrev aCk := @Nat.pow_lt_pow_right
abbrev aCl := @List.mem_append_left
abbrev yY := @List.flatMap_nil
abbrev aGi := @Array.toList_setIfInBounds
abbrev tL := @Nat.le_succ
abbrev aCm := @Nat.div_mul_le_self
abbrev yZ := @List.find?_cons
abbrev aGj := @World.cell?_setCell_other
abbrev zA := @Nat.div_lt_self
abbrev aGk := @List.getLast?_eq_getElem?
abbrev zC := @Bool.eq_iff_iff
abbrev vR := @List.map_map
abbrev aGl := @WideMaps.keyOf_string_mk
abbrev vS := @Nat.pow_zero
abbrev aCn := @Nat.mul_right_comm
abbrev aGm := @Nat.gcd_pos_of_pos_right
abbrev aCo := @Bool.not_eq_false'
abbrev aCp := @UInt8.toNat_ofNat'
abbrev zD := @Nat.mul_le_mul
abbrev zE := @Bool.and_false
abbrev aCq := @Nat.gcd_dvd_right
abbrev aGn := @Array.getElem?_eq_none
abbrev aGo := @Array.mem_iff_getElem?
abbrev aGp := @List.flatten_singleton
abbrev aCr := @Lib.cell_of_heap
abbrev qX := @Prod.ext
abbrev aGq := @Lib.run_eql_slice_nil
abbrev aGr := @ByteArray.data_append
abbrev aGs := @Nat.mul_div_mul_right
abbrev aGt := @Bool.and_eq_false_iff
abbrev aCs := @List.length_nil
abbrev aGu := @Lib.decDigits_length
abbrev aCt := @Nat.mul_add_div
abbrev aCu := @List.all_append
abbrev aN8 := @Nat.shiftLeft_add_eq_or_of_lt
abbrev aGv := @Array.length_toList
abbrev aGw := @Array.toList_append
abbrev aGx := @List.flatten_append
abbrev zF := @Nat.pow_pos
abbrev aN9 := @List.getElem?_concat_length
abbrev aGy := @of_decide_eq_false
abbrev aCv := @Nat.le_of_dvd
abbrev aGz := @Option.some.injEq
abbrev aG0 := @Nat.or_lt_two_pow
abbrev aCw := @Nat.succ_mul
abbrev aG1 := @Option.bind_some
abbrev aG2 := @DataW.held.injEq
abbrev aCx := @Nat.ne_of_lt
abbrev aCy := @Nat.gcd_comm
abbrev aG3 := @Nat.lt_succ_self
abbrev aG4 := @Nat.div_add_mod'
abbrev aG5 := @Oper.upon_value
abbrev aG6 := @Bool.or_eq_true
abbrev aG7 := @Nat.mul_add_mod
abbrev aCz := @Nat.div_one
def nth (xs:List Int) (j:Nat):Int:=xs.getD j 0
theorem cE {xs:List Int} {j:Nat} (h:j<xs.length):nth xs j=xs[j]:=by simp [nth,List.getD,h]
theorem cB {xs:List Int} {j:Nat} (h:j<xs.length):nth xs j∈xs:=by rw [cE h];exact qS h
theorem aC0 {xs ys:List Int} (h:xs.length=ys.length) (e:∀j,j<xs.length->nth xs j=nth ys j):xs=ys:=by
 apply List.ext_getElem h;intro i l r;have:=e i l
 rwa [cE l,cE r] at this
structure jQ (w:World) (a:Option Addr) (n:Nat) (xs:List Int):Prop where
 len:xs.length=n
 wf:∀x∈xs,-9223372036854775808<=x/\x<=9223372036854775807
 cells:0<n->∃b o,a=some ⟨b,o,none⟩/\b<w.heap.size/\∀j,j<n->w.cell? ⟨b,o+j,none⟩=some (.int .i64 (nth xs j))
theorem jQ.nil (w:World) (a:Option Addr):jQ w a 0 []:=⟨rfl,by simp,by omega⟩
theorem jQ.below {w w':World} {a:Option Addr} {n B:Nat} {xs:List Int} (h:jQ w a n xs) (l:Below B w w') (y:w.heap.size<=B):jQ w' a n xs:=by
 refine⟨h.len,h.wf,fun G=>?_⟩;obtain ⟨b,o,C,r,D⟩:=h.cells G;exact⟨b,o,C,bG r l.size,fun j E=>by rw [l.cell (p:=⟨b,o+j,none⟩) (bG r y)];exact D j E⟩
theorem jQ.drew {w:World} {a:Option Addr} {n:Nat} {xs:List Int} (h:jQ w a n xs):jQ w.drew a n xs:=⟨h.len,h.wf,h.cells⟩
theorem jQ.at {w:World} {a:Option Addr} {n:Nat} {xs:List Int} (h:jQ w a n xs) (k:Nat) (r:k<n):∃b o,a=some ⟨b,o,none⟩/\w.cell? ⟨b,o+k,none⟩=some (.int .i64 (nth xs k)):=by
 obtain ⟨b,o,j,_,l⟩:=h.cells (by omega);exact⟨b,o,j,l k r⟩
theorem jQ.own {w:World} {base n:Nat} {e:TypeId} {a:Option Addr} {m c:Nat} {xs:List Int} (h:w.ownsRow base e 1 (.slice a m c) n (xs.map (Value.int .i64))) (G:∀x∈xs,-9223372036854775808<=x/\x<=9223372036854775807):m=n/\jQ w a n xs/\(∀b,a=some b->base<=b.block/\b.block<w.heap.size):=by
 obtain ⟨K,y⟩:=h;have D:xs.length=n:=by simpa using K
 rcases y with ⟨l,rfl⟩ | ⟨g,L,cur,l,J,C,M,y,N,I⟩
 ·cases l;exact⟨rfl,⟨D,G,by omega⟩,by simp⟩
 ·cases l;have E:=(bH C).1;refine⟨rfl,⟨D,G,fun U=>⟨g,0,rfl,E,fun j O=>?_⟩⟩,by rintro b ⟨⟩;exact⟨J,E⟩⟩;have r:(cur.toList.take (n * 1))[j]? = (xs.map (Value.int .i64))[j]?:=by rw [I]
  rw [sS (by omega)] at r;simp only [World.cell?,C,dT,vL,vM,if_false];rw [<-vI,r];simp [nth,List.getD,show j<xs.length by omega]
theorem jQ.lit (xs:List Int) (e:TypeId) (w:World) (l:∀x∈xs,-9223372036854775808<=x/\x<=9223372036854775807):jQ (w.alloc (.cells (xs.map (Value.int .i64)).toArray e)) (some ⟨w.heap.size,0,none⟩) xs.length xs:=by
 refine⟨rfl,l,fun _=>⟨w.heap.size,0,rfl,by simp,fun j h=>?_⟩⟩;simp [kO,nth,List.getD,h]
theorem zG {P:Program} {id:Nat} {Q:Exit->Act->World->Prop} {a:Act} {w:World} {l:List Oper} (n:Nat) (y:P.follows .mixedOrders=true) (r:Region.lexTailB .any l.toArray n=true)
  (h:∀W,W=w.drew->wpStill P l.toArray W (fun j=>wpList P l.toArray Q (l.drop n) j W) (l.take n) a):(Code.region id l.toArray true).wp P Q a w:=
 wp_region_still_tail n y r (h _ rfl)
end Go.Proofs.YtgoojkiccdjplaaGreatDoor
namespace Go.Proofs.YtgoojkiccdjplaaGreatDoor
open Go.RowKit Go.ChangeShapes Go.WideShapes Go.Proofs.Tryz
open Go.Deep (open_bools)
variable {H : Type} {enc : TypeId × Value -> H} {P : Program} {w : World}
theorem aUi {w:World} {x:Addr} {n:Nat} {f:Nat->Value} (y:0<n) (h:∀i,i<n->w.cell? (x.add i)=some (f i)):∃b o,x=⟨b,o,none⟩/\b<w.heap.size/\∀j,j<n->w.cell? ⟨b,o+j,none⟩=some (f j):=by
 obtain ⟨b,o,sp⟩:=x;have l:=h 0 y;have C:sp=none:=by simpa [Addr.add] using World.cell?_spot l
 subst C;refine⟨b,o,rfl,uK w _ l,fun j r=>by rw [<-lD b o j];exact h j r⟩
theorem aIm {t e:TypeId} {a:Option Addr} {C D:Nat} {d:DataW H} {p:List MemPlace} (U:P.underlying t=some (.slice e)) (L:P.underlying e=some (.int .i64)) (I:P.cellsOf e=1)
  (h:DataW.Trod enc P w 0 (fun _=>true) true t (.slice a C D) d p):∃xs,jQ w a C xs/\(C<=D/\D<=9223372036854775807):=by
 obtain ⟨aa,M⟩:=h;rcases open_ints U L I M with ⟨r,_⟩ | ⟨x,l,c,zs,r,_,ad,N,Z,_,K,V⟩
 ·simp [Value.cells] at r;obtain ⟨rfl,rfl,rfl⟩:=r;exact⟨[],jQ.nil _ _,by omega⟩
 ·simp [Value.cells] at r;obtain ⟨rfl,rfl,rfl⟩:=r;simp only [if_true] at Z;unfold maxLen at N;refine⟨zs.take C,⟨by simp;omega,fun y hy=>bounds_i64 (V y (sY hy)),fun O=>?_⟩,by omega⟩;obtain ⟨b,o,Y,G,J⟩:=aUi (n:=C) (f:=fun j=>.int .i64 (zs.getD j 0)) O (fun i ab=>K i (by omega));refine⟨b,o,by rw [Y],G,fun j E=>?_⟩;rw [J j E];simp [nth,List.getD,E]
end Go.Proofs.YtgoojkiccdjplaaGreatDoor
namespace Go.Proofs.YtgoojkiccdjplaaGreatDoor
open Go.RowKit Go.Lib Go.Proofs.Tryz
def aW (w:World) (base:Nat) (e:TypeId) (size:Nat) (v:Value) (n:Nat) (xs:List Value):Prop:=
 xs.length=n * size /\
 (
  (v = .slice none 0 0/\n=0) \/
  ∃g cap cur,v = .slice (some ⟨g,0,none⟩) n cap/\base<=g/\w.heap[g]? = some (.cells cur e (0,0))/\n<=cap/\cap<=maxLen/\cap * size<=cur.size/\cur.toList.take (n * size)=xs)
section
variable {w w' : World} {base : Nat} {e : TypeId} {size n : Nat} {v : Value} {xs : List Value}
theorem aW.of (h:w.ownsRow base e size v n xs):aW w base e size v n xs:=by
 refine⟨h.1,?_⟩;rcases h.2 with I | ⟨g,j,cur,l,r,y,C,D,E,G⟩
 ·exact .inl I
 ·exact .inr ⟨g,j,cur,l,r,y,C,D,cD E.symm,G⟩
theorem aW.nil (w:World) (base:Nat) (e:TypeId) (size:Nat):aW w base e size (.slice none 0 0) 0 []:=⟨by simp,.inl ⟨rfl,rfl⟩⟩
theorem aW.slice (h:aW w base e size v n xs):∃a c,v = .slice a n c/\n<=c/\c<=maxLen:=by
 rcases h.2 with ⟨rfl,rfl⟩ | ⟨g,j,cur,rfl,_,_,l,r,_⟩
 ·exact⟨none,0,rfl,aA,aN⟩
 ·exact⟨_,j,rfl,l,r⟩
theorem aW.lt (h:aW w base e size v n xs):∀k,v.ownBlock=some k->base<=k/\k<w.heap.size:=by
 intro k j;rcases h.2 with ⟨rfl,_⟩ | ⟨g,y,cur,rfl,l,r,_⟩
 ·simp [Value.ownBlock] at j
 ·simp [Value.ownBlock] at j;subst j;exact⟨l,(bH r).1⟩
theorem aW.ty (h:aW w base e size v n xs):∀k,v.ownBlock=some k->∃cs f,w.heap[k]? = some (.cells cs e f):=by
 intro k j;rcases h.2 with ⟨rfl,_⟩ | ⟨g,r,cur,rfl,y,l,_⟩
 ·simp [Value.ownBlock] at j
 ·simp [Value.ownBlock] at j;subst j;exact⟨_,_,l⟩
theorem aW.same (h:aW w base e size v n xs) (C:∀k,v.ownBlock=some k->w'.heap[k]? = w.heap[k]?):aW w' base e size v n xs:=by
 refine⟨h.1,?_⟩;rcases h.2 with D | ⟨g,j,cur,rfl,l,r,y⟩
 ·exact .inl D
 ·exact .inr ⟨g,j,cur,rfl,l,by rw [C g rfl];exact r,y⟩
theorem aW.alloc (h:aW w base e size v n xs) (o:Obj):aW (w.alloc o) base e size v n xs:=h.same fun k j=>fB w o k (h.lt k j).2
theorem aW.cells (h:aW w base e size v n xs) {g:Nat} (r:v.ownBlock=some g):∀j u,xs[j]? = some u->w.cell? ⟨g,j,none⟩=some u:=by
 intro j u l;rcases h.2 with ⟨rfl,_⟩ | ⟨E,D,cur,rfl,_,y,_,_,_,C⟩
 ·simp [Value.ownBlock] at r
 ·simp [Value.ownBlock] at r;subst r;have G:j<xs.length:=(gK.1 l).1;rw [<-C] at l;rw [sS (by have:=h.1;omega)] at l;simp only [World.cell?,y,vL,vM,if_false];rw [<-vI];exact l
theorem aW.form (h:aW w base e size v n xs) (D:0<n):∃g j,v = .slice (some ⟨g,0,none⟩) n j/\base<=g/\g<w.heap.size:=by
 rcases h.2 with ⟨_,C⟩ | ⟨g,j,cur,y,l,r,_⟩
 ·omega
 ·exact⟨g,j,y,l,(bH r).1⟩
def Src (w:World) (size:Nat) (A:Option Addr) (m:Nat) (news:List Value):Prop:=
 news.length=m * size/\(0<m->∃ad,A=some ad/\∀j u,news[j]? = some u->w.cell? (ad.add j)=some u)
theorem Src.nothing {size:Nat} {A:Option Addr}:Src w size A 0 []:=⟨by simp,fun h=>absurd h (by omega)⟩
theorem Src.one {size b:Nat} {news:List Value} (r:news.length=size) (h:∀j u,news[j]? = some u->w.cell? ⟨b,j,none⟩=some u):Src w size (some ⟨b,0,none⟩) 1 news:=
 ⟨by omega,fun _=>⟨_,rfl,fun j u l=>by rw [lD,dT];exact h j u l⟩⟩
variable {P : Program}
theorem aG8 (t J:TypeId) (i:TypeInfo) (z:Value) (bytes:Nat) (I:P.underlying t=some (.slice e)) (D:P.info? e=some i) (aj:i.zero=some z)
  (ah:i.size=size) (ab:i.bytes=bytes) (ak:z.cells.size=size) (ai:0<size) (r:aW w base e size v n xs)
  (A:Option Addr) (m c:Nat) (news:List Value) (V:Src w size A m news) (Y:∀u∈news,u.oneCell'=true) (Z:n+m<=maxLen) (ad:(n+m) * bytes<=140737488355328) (aa:base<=w.heap.size) :
  ∃v' w',(Builtin.append_ #[t,t] J #[v,.slice A m c]).run P w = .ok v' w'/\aW w' base e size v' (n+m) (xs++news)/\w.grownBy w' v.ownBlock/\(v'.ownBlock=v.ownBlock\/∀k,v'.ownBlock=some k->w.heap.size<=k):=by
 rcases gD m with rfl | au
 ·have N:news = []:=jR (by simpa using V.1);subst N;refine⟨v,w,?_,by simpa using r,⟨rfl,rfl,rfl,aA,fun _ _ _=>rfl⟩,.inl rfl⟩;rcases r.2 with ⟨rfl,rfl⟩ | ⟨g,y,cur,rfl,_,_,ag,_⟩
  ·cases A <;> simp [Builtin.append_,run_underlying I,sizeOf,typeInfo,D,Builtin.lenOf,Builtin.firstCells,loadCells,loadCellsFrom]
  ·cases A <;> simp [Builtin.append_,run_underlying I,sizeOf,typeInfo,D,Builtin.lenOf,Builtin.firstCells,loadCells,loadCellsFrom,ag,storeCells]
 obtain ⟨K,rfl,O⟩:=V.2 au;have E:=V.1;rcases r.2 with ⟨rfl,rfl⟩ | ⟨g,y,cur,rfl,ao,ae,ag,ap,aq,av⟩
 ·have ax:xs = []:=jR (by simpa using r.1);subst ax;obtain ⟨v',w',G,L,l,C⟩:=run_append_own_at (P:=P) w base t J e i z size bytes I D aj ah ab ak ai _ 0 [] (yU w base e size) K m c news E O Y Z ad aa;refine⟨v',w',G,.of L,l,?_⟩;rcases C.2 with M | M
  ·exact .inl M
  ·exact .inr fun k h=>by rw [M] at h;injection h with h;omega
 ·subst ah;by_cases U:n+m<=y
  ·have ar:n * i.size+news.length<=cur.size:=by rw [E,<-fC];exact aH (kF _ U) aq
   have G:=run_append_room (P:=P) w t J e i I D g n y cur ae K m c news E O Y U ar;have af:(xs++news).length=(n+m) * i.size:=by rw [dM,r.1,E,fC]
   refine⟨_,_,G,⟨af,.inr ⟨g,y,_,rfl,ao,setRow_heap w g cur _ e _ ae,U,ap,?_,?_⟩⟩,⟨rfl,rfl,rfl,by simp,fun k _ h=>setRow_other w g k _ (fun e=>h (by simp [Value.ownBlock,e]))⟩,.inl rfl⟩
   ·simp only [List.size_toArray,dM,eS,kQ,aGv];omega
   ·rw [av,<-af];exact List.take_left
  ·obtain ⟨v',w',G,L,l⟩:=run_append_arg_grows (P:=P) w t J e i z i.size bytes I D aj rfl ab ak ai ⟨g,0,none⟩ n y xs r.1 (fun j u aw=>by rw [lD,dT];exact r.cells (g:=g) rfl j u aw) K m c news E O (by omega) Z ad;have C:=aW.of L;refine⟨v',w',G,⟨C.1,?_⟩,⟨l.os,l.tape,l.output,l.size,fun k h _=>l.block k h (by simp)⟩,.inr fun k h=>(C.lt k h).1⟩;rcases C.2 with N | ⟨an,al,am,ay,az,a0⟩
   ·exact .inl N
   ·exact .inr ⟨an,al,am,ay,aH aa az,a0⟩
variable {t : TypeId} {i : TypeInfo} {z : Value} {bytes m c : Nat} {A : Option Addr} {news : List Value} {ops : Array Oper} {o : Oper} {a : Act} {Q : Exit -> Act -> World -> Prop}
theorem aBk {j:Act->World->Prop} (s x:Operand) (K:o.op = .call { callee:=.builtin .append,args:=#[s,x],argTypes:=#[t,t] })
  (Y:P.underlying t=some (.slice e)) (J:P.info? e=some i) (aa:i.zero=some z) (U:i.size=size) (G:i.bytes=bytes) (ab:z.cells.size=size) (V:0<size)
  (O:a.eval s=v) (Z:a.eval x = .slice A m c) (L:aW w base e size v n xs) (M:Src w size A m news) (l:∀u∈news,u.oneCell'=true) (D:n+m<=maxLen) (I:(n+m) * bytes<=140737488355328) (E:base<=w.heap.size)
  (h:∀v' w',aW w' base e size v' (n+m) (xs++news)->w.grownBy w' v.ownBlock->(v'.ownBlock=v.ownBlock\/∀k,v'.ownBlock=some k->w.heap.size<=k)->j (a.put o.dst v') w'):o.wp P a w j Q:=by
 obtain ⟨v',w',N,r,y,C⟩:=aG8 (P:=P) t o.type i z bytes Y J aa U G ab V L A m c news M l D I E;unfold Oper.wp execOp;simp only [K,resolve,invoke,builtin,Sem.run_bind,Sem.run_pure,Result.andThen_ok,List.map_toArray,List.map_cons,List.map_nil,O,Z,N];exact h v' w' r y C
theorem cI {rest:List Oper} (J:o.guard=none) (s x:Operand) (L:o.op = .call { callee:=.builtin .append,args:=#[s,x],argTypes:=#[t,t] })
  (Y:P.underlying t=some (.slice e)) (K:P.info? e=some i) (aa:i.zero=some z) (U:i.size=size) (G:i.bytes=bytes) (ab:z.cells.size=size) (V:0<size)
  (O:a.eval s=v) (Z:a.eval x = .slice A m c) (M:aW w base e size v n xs) (N:Src w size A m news) (j:∀u∈news,u.oneCell'=true) (C:n+m<=maxLen) (I:(n+m) * bytes<=140737488355328) (E:base<=w.heap.size)
  (h:∀v' w',aW w' base e size v' (n+m) (xs++news)->w.grownBy w' v.ownBlock->(v'.ownBlock=v.ownBlock\/∀k,v'.ownBlock=some k->w.heap.size<=k)->wpList P ops Q rest (a.put o.dst v') w'):wpList P ops Q (o :: rest) a w:=
 wpList_plain J fun _ D=>aBk s x L Y K aa U G ab V O Z M N j C I E fun v' w' l r y=>D _ _ (h v' w' l r y)
theorem bZ {j:Act->World->Prop} {l:Prop} (G:o.guard=none) (s x:Operand) (J:o.op = .call { callee:=.builtin .append,args:=#[s,x],argTypes:=#[t,t] })
  (U:P.underlying t=some (.slice e)) (I:P.info? e=some i) (Z:i.zero=some z) (N:i.size=size) (D:i.bytes=bytes) (aa:z.cells.size=size) (O:0<size)
  (M:a.eval s=v) (Y:a.eval x = .slice A m c) (K:aW w base e size v n xs) (L:Src w size A m news) (r:∀u∈news,u.oneCell'=true) (y:n+m<=maxLen) (E:(n+m) * bytes<=140737488355328) (C:base<=w.heap.size)
  (h:∀v' w',aW w' base e size v' (n+m) (xs++news)->w.grownBy w' v.ownBlock->(v'.ownBlock=v.ownBlock\/∀k,v'.ownBlock=some k->w.heap.size<=k)->j (a.put o.dst v') w'):if Region.wanted o (yielded ops a.tmps)=true then Oper.wp P o a w j Q else l:=by
 have V:Region.wanted o (yielded ops a.tmps)=true:=by simp [Region.wanted,G]
 rw [if_pos V];exact aBk s x J U I Z N D aa O M Y K L r y E C h
end
def eQ (w:World) (p k:Nat):Prop:=k=p\/∃cs t f,w.heap[p]? = some (.cells cs t f)/\∃v∈cs,v.ownBlock=some k
structure iI (p:Nat) (w w':World):Prop where
 os:w'.os=w.os
 tape:w'.tape=w.tape
 output:w'.output=w.output
 size:w.heap.size<=w'.heap.size
 block:∀k,k<w.heap.size->¬eQ w p k->w'.heap[k]? = w.heap[k]? /\ ¬eQ w' p k
section
variable {p q : Nat} {w w' w'' : World}
theorem eQ.same (h:w'.heap[p]? = w.heap[p]?) {k:Nat}:eQ w' p k↔eQ w p k:=by unfold eQ;rw [h]
theorem iI.trans (h:iI p w w') (k:iI p w' w''):iI p w w'':=
 ⟨k.os.trans h.os,k.tape.trans h.tape,k.output.trans h.output,aH h.size k.size,fun i j y=>by
  obtain ⟨l,C⟩:=h.block i j y;obtain ⟨r,D⟩:=k.block i (bG j h.size) C;exact⟨r.trans l,D⟩⟩
theorem iI.of_below (r:p<w.heap.size) (h:Below w.heap.size w w'):iI p w w':=
 ⟨h.os,h.tape,h.output,h.size,fun k j l=>⟨h.block k j,fun e=>l ((eQ.same (h.block p r)).1 e)⟩⟩
theorem iI.below {B:Nat} (h:iI p w w') (l:B<=w.heap.size) (j:∀k,eQ w p k->B<=k):Below B w w':=
 ⟨h.os,h.tape,h.output,h.size,fun k r=>(h.block k (by omega) (fun e=>by have:=j k e;omega)).1⟩
def Apart (w:World) (p q:Nat):Prop:=∀k,eQ w q k->k<w.heap.size/\¬eQ w p k
theorem Apart.keep (h:Apart w p q) (r:iI p w w'):(∀k,eQ w q k->w'.heap[k]? = w.heap[k]?)/\Apart w' p q:=by
 have y:∀k,eQ w q k->w'.heap[k]? = w.heap[k]?:=fun k j=>(r.block k (h k j).1 (h k j).2).1
 have C:=y q (.inl rfl);exact⟨y,fun k j=>by
  have l:=(eQ.same C).1 j;exact⟨bG (h k l).1 r.size,(r.block k (h k l).1 (h k l).2).2⟩⟩
end
structure cH (α:Type) where
 k:Nat
 rd:(Nat->Prop)->World->α->List Value->Prop
 len:∀ {S w x cs},rd S w x cs->cs.length=k
 one:∀ {S w x cs},rd S w x cs->∀u∈cs,u.oneCell'=true
 keep:∀ {S w w' x cs},rd S w x cs->(∀b,b<w.heap.size->S b->w'.heap[b]? = w.heap[b]?)->w.heap.size<=w'.heap.size->rd S w' x cs
 mono:∀ {S S':Nat->Prop} {w x cs},rd S w x cs->(∀b,b<w.heap.size->S b->S' b)->rd S' w x cs
def cH.int:cH Int where
 k:=1
 rd _ _ x cs:=cs = [.int .i64 x] /\ -9223372036854775808<=x/\x<=9223372036854775807
 len h:=by rw [h.1];rfl
 one h:=by rw [h.1];intro u hu;simp at hu;subst hu;rfl
 keep h _ _:=h
 mono h _:=h
def cH.bool:cH Bool where
 k:=1
 rd _ _ x cs:=cs = [.bool x]
 len h:=by rw [h];rfl
 one h:=by rw [h];intro u hu;simp at hu;subst hu;rfl
 keep h _ _:=h
 mono h _:=h
def cH.str:cH ByteArray where
 k:=1
 rd _ _ x cs:=cs = [.string x]
 len h:=by rw [h];rfl
 one h:=by rw [h];intro u hu;simp at hu;subst hu;rfl
 keep h _ _:=h
 mono h _:=h
variable {α β : Type}
def cH.prod (R:cH α) (T:cH β):cH (α × β) where
 k:=R.k+T.k
 rd S w x cs:=∃c d,cs=c++d/\R.rd S w x.1 c/\T.rd S w x.2 d
 len h:=by obtain ⟨c,d,rfl,h1,h2⟩:=h;rw [dM,R.len h1,T.len h2]
 one h:=by
  obtain ⟨c,d,rfl,h1,h2⟩:=h;intro u hu;rcases fT.1 hu with hu | hu
  ·exact R.one h1 u hu
  ·exact T.one h2 u hu
 keep h hk hs:=by obtain ⟨c,d,rfl,h1,h2⟩:=h;exact⟨c,d,rfl,R.keep h1 hk hs,T.keep h2 hk hs⟩
 mono h hk:=by obtain ⟨c,d,rfl,h1,h2⟩:=h;exact⟨c,d,rfl,R.mono h1 hk,T.mono h2 hk⟩
def cH.map (f:β->α) (R:cH α):cH β where
 k:=R.k
 rd S w x cs:=R.rd S w (f x) cs
 len h:=R.len h
 one h:=R.one h
 keep h:=R.keep h
 mono h:=R.mono h
def bT (R:cH α) (S:Nat->Prop) (w:World) (a:Option Addr) (n:Nat) (xs:List α):Prop:=
 xs.length=n/\(0<n->∃b o,a=some ⟨b,o,none⟩/\b<w.heap.size/\S b/\∀j x,xs[j]? = some x->∃cs,R.rd S w x cs/\∀i u,cs[i]? = some u->w.cell? ⟨b,o+j * R.k+i,none⟩=some u)
section
variable {R : cH α} {S S' : Nat -> Prop} {w w' : World} {a : Option Addr} {n : Nat} {xs : List α}
theorem bT.nil (R:cH α) (S:Nat->Prop) (w:World) (a:Option Addr):bT R S w a 0 []:=⟨rfl,fun h=>absurd h (by omega)⟩
theorem bT.keep (h:bT R S w a n xs) (r:∀b,b<w.heap.size->S b->w'.heap[b]? = w.heap[b]?) (C:w.heap.size<=w'.heap.size):bT R S w' a n xs:=
 ⟨h.1,fun J=>by
  obtain ⟨b,o,G,y,l,I⟩:=h.2 J;refine⟨b,o,G,bG y C,l,fun j x L=>?_⟩;obtain ⟨cs,D,E⟩:=I j x L;exact⟨cs,R.keep D r C,fun i u K=>by rw [sZ (w:=w) (a:=⟨b,o+j * R.k+i,none⟩) (r b y l)];exact E i u K⟩⟩
theorem bT.mono (h:bT R S w a n xs) (l:∀b,b<w.heap.size->S b->S' b):bT R S' w a n xs:=
 ⟨h.1,fun I=>by
  obtain ⟨b,o,E,r,D,G⟩:=h.2 I;refine⟨b,o,E,r,l b r D,fun j x J=>?_⟩;obtain ⟨cs,y,C⟩:=G j x J;exact⟨cs,R.mono y l,C⟩⟩
theorem bT.below {B:Nat} (h:bT R S w a n xs) (j:Below B w w') (l:w.heap.size<=B):bT R S w' a n xs:=h.keep (fun b r _=>j.block b (bG r l)) j.size
theorem bT.at (h:bT R S w a n xs) {j:Nat} {x:α} (l:xs[j]? = some x):∃b o cs,a=some ⟨b,o,none⟩/\S b/\R.rd S w x cs/\∀i u,cs[i]? = some u->w.cell? ⟨b,o+j * R.k+i,none⟩=some u:=by
 have G:j<xs.length:=(gK.1 l).1;obtain ⟨b,o,D,_,C,E⟩:=h.2 (by have:=h.1;omega);obtain ⟨cs,r,y⟩:=E j x l;exact⟨b,o,cs,D,C,r,y⟩
end
def cH.slice (R:cH α):cH (List α) where
 k:=1
 rd S w xs cs:=∃a n c,cs = [.slice a n c]/\n<=c/\c<=maxLen/\bT R S w a n xs
 len h:=by obtain ⟨a,n,c,rfl,_⟩:=h;rfl
 one h:=by obtain ⟨a,n,c,rfl,_⟩:=h;intro u hu;simp at hu;subst hu;rfl
 keep h hk hs:=by obtain ⟨a,n,c,rfl,h1,h2,h3⟩:=h;exact⟨a,n,c,rfl,h1,h2,h3.keep hk hs⟩
 mono h hk:=by obtain ⟨a,n,c,rfl,h1,h2,h3⟩:=h;exact⟨a,n,c,rfl,h1,h2,h3.mono hk⟩
theorem bT.toI {S:Nat->Prop} {w:World} {a:Option Addr} {n:Nat} {xs:List Int} (h:bT cH.int S w a n xs):jQ w a n xs:=by
 refine⟨h.1,fun x K=>?_,fun J=>?_⟩
 ·obtain ⟨j,r,rfl⟩:=gU K;obtain ⟨b,o,cs,_,_,l,_⟩:=h.at (cK r);exact l.2
 ·obtain ⟨b,o,E,I,L,G⟩:=h.2 J;refine⟨b,o,E,I,fun j r=>?_⟩;have y:j<xs.length:=by have:=h.1;omega
  obtain ⟨cs,l,C⟩:=G j _ (cK y);have D:=C 0 (.int .i64 xs[j]) (by rw [l.1];rfl);rw [cE y]
  simpa [cH.int] using D
theorem bT.ofI {S:Nat->Prop} {w:World} {a:Option Addr} {n:Nat} {xs:List Int} (h:jQ w a n xs) (E:∀x,0<n->a=some x->S x.block):bT cH.int S w a n xs:=by
 refine⟨h.len,fun D=>?_⟩;obtain ⟨b,o,y,I,G⟩:=h.cells D;refine⟨b,o,y,I,E _ D y,fun j x r=>?_⟩;have C:j<xs.length:=(gK.1 r).1;refine⟨[.int .i64 x],⟨rfl,h.wf x (fP r)⟩,fun i u l=>?_⟩
 match i with
 |
  0=>
  simp at l;subst l;have:=G j (by have:=h.len;omega);rw [cE C] at this;simp [cH.int];rw [this]
  congr 1
  congr 1
  have:=cK C;rw [r] at this;injection this with this
  exact this.symm
 | i+1=>simp at l
def cA (R:cH α) (S:Nat->Prop) (w:World) (base:Nat) (e:TypeId) (v:Value) (xs:List α):Prop:=
 ∃css:List (List Value),aW w base e R.k v xs.length css.flatten/\css.length=xs.length/\∀(j:Nat) (x:α),xs[j]? = some x->∃cs,css[j]? = some cs/\R.rd S w x cs
theorem tM {k:Nat}:∀ {css:List (List Value)} (_:∀cs∈css,cs.length=k) {j:Nat} {cs:List Value} (_:css[j]? = some cs) {i:Nat} {u:Value} (_:cs[i]? = some u),css.flatten[j * k+i]? = some u
 |
  c :: css,hl,0,cs,h,i,u,hu=>by
  simp at h;subst h;rw [yV,nW,dT,mY (gK.1 hu).1];exact hu
 |
  c :: css,hl,j+1,cs,h,i,u,hu=>by
  have l:=hl c (by simp);rw [yV,oS (by rw [l,aCw];omega),l,show(j+1) * k+i - k=j * k+i by rw [aCw];omega];exact tM (fun cs h=>hl cs (by simp [h])) (by simpa using h) hu
section
variable {R : cH α} {S S' : Nat -> Prop} {w w' : World} {base : Nat} {e : TypeId} {v v' : Value} {xs : List α}
theorem cA.nil (R:cH α) (S:Nat->Prop) (w:World) (base:Nat) (e:TypeId):cA R S w base e (.slice none 0 0) []:=⟨[],aW.nil _ _ _ _,rfl,fun j x h=>by simp at h⟩
theorem cA.keep (h:cA R S w base e v xs) (E:∀b,b<w.heap.size->S b->w'.heap[b]? = w.heap[b]?) (I:∀k,v.ownBlock=some k->w'.heap[k]? = w.heap[k]?) (G:w.heap.size<=w'.heap.size):cA R S w' base e v xs:=by
 obtain ⟨css,l,r,y⟩:=h;refine⟨css,l.same I,r,fun j x J=>?_⟩;obtain ⟨cs,C,D⟩:=y j x J;exact⟨cs,C,R.keep D E G⟩
theorem cA.below {B:Nat} (h:cA R S w base e v xs) (j:Below B w w') (l:w.heap.size<=B):cA R S w' base e v xs:=
 h.keep (fun b C _=>j.block b (bG C l)) (fun k y=>by obtain ⟨css,r,_⟩:=h;exact j.block k (bG (r.lt k y).2 l)) j.size
theorem cA.mono (h:cA R S w base e v xs) (E:∀b,b<w.heap.size->S b->S' b):cA R S' w base e v xs:=by
 obtain ⟨css,l,r,y⟩:=h;refine⟨css,l,r,fun j x G=>?_⟩;obtain ⟨cs,C,D⟩:=y j x G;exact⟨cs,C,R.mono D E⟩
theorem cA.lens {css:List (List Value)} (D:css.length=xs.length) (l:∀(j:Nat) (x:α),xs[j]? = some x->∃cs,css[j]? = some cs/\R.rd S w x cs):∀cs∈css,cs.length=R.k:=fun cs y=>by
 obtain ⟨j,C,rfl⟩:=gU y;obtain ⟨cs,h,r⟩:=l j _ (cK (by omega:j<xs.length));rw [cK C] at h;injection h with h
 rw [h];exact R.len r
theorem cA.slice (h:cA R S w base e v xs):∃a c,v = .slice a xs.length c/\xs.length<=c/\c<=maxLen:=by obtain ⟨css,j,_⟩:=h;exact j.slice
theorem cA.lt (h:cA R S w base e v xs):∀k,v.ownBlock=some k->base<=k/\k<w.heap.size:=by obtain ⟨css,j,_⟩:=h;exact j.lt
theorem cA.ty (h:cA R S w base e v xs):∀k,v.ownBlock=some k->∃cs f,w.heap[k]? = some (.cells cs e f):=by obtain ⟨css,j,_⟩:=h;exact j.ty
theorem cA.read {a:Option Addr} {n c:Nat} (h:cA R S w base e (.slice a n c) xs) (G:∀b,b<w.heap.size->S b->S' b) (K:∀b,Value.ownBlock (.slice a n c)=some b->S' b):bT R S' w a n xs:=by
 obtain ⟨css,l,C,y⟩:=h;obtain ⟨N,O,r,_⟩:=l.slice;cases r;refine⟨rfl,fun J=>?_⟩;obtain ⟨g,U,r,_,I⟩:=l.form J;cases r;refine⟨g,0,rfl,I,K g rfl,fun j x M=>?_⟩;obtain ⟨cs,D,E⟩:=y j x M;refine⟨cs,R.mono E G,fun i u L=>?_⟩;rw [dT];exact l.cells (g:=g) rfl _ u (tM (cA.lens C y) D L)
theorem cA.push {x:α} {cs:List Value} {css:List (List Value)} (h:css.length=xs.length) (C:∀(j:Nat) (x:α),xs[j]? = some x->∃cs,css[j]? = some cs/\R.rd S w x cs) (K:R.rd S w x cs)
  (J:aW w' base e R.k v' (xs.length+1) (css.flatten++cs)) (l:∀b,b<w.heap.size->S b->w'.heap[b]? = w.heap[b]?) (r:w.heap.size<=w'.heap.size):cA R S w' base e v' (xs ++ [x]):=by
 refine⟨css ++ [cs],by simpa using J,by simp [h],fun j y hy=>?_⟩;by_cases G:j<xs.length
 ·rw [mY G] at hy;obtain ⟨ds,D,E⟩:=C j y hy;exact⟨ds,by rw [mY (by omega)];exact D,R.keep E l r⟩
 ·have I:=(gK.1 hy).1;rw [dM,kZ] at I;obtain rfl:j=xs.length:=by omega
  rw [oS aA] at hy;simp at hy;subst hy;exact⟨cs,by rw [<-h];simp,R.keep K l r⟩
end
def Env (w:World):Prop:=Lib.TabIs prog w "strings.asciiSpace" .u8 Lib.asciiSpaceTab
theorem aIn:Tryz.prog.globalNamed "strings.asciiSpace" = some 0:=by kernel_rfl
theorem Env.same {w w':World} (h:Env w) (j:w'.heap[0]? = w.heap[0]?):Env w':=by
 unfold Env Lib.TabIs World.var? at *;rw [aIn] at *;simp only [aG1] at *;rw [j];exact h
theorem Env.pos {w:World} (h:Env w):0<w.heap.size:=by
 unfold Env Lib.TabIs World.var? at h;rw [aIn] at h;simp only [aG1] at h;rcases gD w.heap.size with j | j
 ·rw [aGn (by omega)] at h;cases h
 ·exact j
theorem Env.below {B:Nat} {w w':World} (h:Env w) (l:Below B w w') (j:0<B):Env w':=h.same (l.block 0 j)
theorem Env.all {w w':World} (h:Env w) (j:Below w.heap.size w w'):Env w':=h.below j h.pos
theorem aI {a b:Bool} (h:a=b):Ending.returned (.bool a) = .returned (.bool b):=by rw [h]
theorem mI {k:IntKind} {a b:Int} (h:a=b):Ending.returned (.int k a) = .returned (.int k b):=by rw [h]
def aG9:List UInt8:=[116,114,117,101,32,102,97,108,115,101,32,110,111,116,32,97,110,100,32,111,114,32,61,62,32,120,111,114,32,61,32,100,105,115,116,105,110,99,116,32,105,116,101,32,108,101,116,32,43,32,45,32,42,32,47,32,60,61,32,60,32,62,61,32,62,32,66,111,111,108,32,82,101,97,108,32,95,32,33,32,97,115,32,101,120,105,115,116,115,32,102,111,114,97,108,108,32,112,97,114]
def aIo:List (List UInt8):=[[116,114,117,101],[102,97,108,115,101],[110,111,116],[97,110,100],[111,114],[61,62],[120,111,114],[61],[100,105,115,116,105,110,99,116],[105,116,101],[108,101,116],[43],[45],[42],[47],[60,61],[60],[62,61],[62],[66,111,111,108],[82,101,97,108],[95],[33],[97,115],[101,120,105,115,116,115],[102,111,114,97,108,108],[112,97,114]]
def fG:List ByteArray:=aIo.map fun l=>⟨l.toArray⟩
theorem aLv:Lib.fields aG9=aIo:=by decide +kernel
theorem aO6:aG9.all (fun b=>b.toNat<128)=true:=by decide +kernel
theorem aLw (s:ByteArray) (w:World) (C:Env w) (l:s.data.toList=aG9):Calls prog 188 #[.string s] w fun e w'=>e = .returned (.slice (some ⟨w.heap.size,0,none⟩) 27 27)/\w'=w.alloc (.cells (fG.map Value.string).toArray 9):=by
 have D:s.size<4294967281:=by
  have h:s.size=s.data.toList.length:=by simp
  rw [h,l];decide
 refine(Tryz.strings_Fields_laid s w D (fun j b y=>?_) C).mono fun e w' ⟨h,r⟩=>?_
 ·rw [l] at y;have:=oV.1 aO6 b (fP y)
  simpa using this
 ·rw [l,aLv] at h r;refine⟨h,r.trans ?_⟩;unfold fG;rw [vR];rfl
def zH (s:ByteArray):Bool:=Lib.containsS fG s
theorem aHa (s:ByteArray) (w:World) (l:Env w):Calls prog 153 #[.string s] w fun e w'=>e = .returned (.bool (zH s))/\Below w.heap.size w w':=by
 have r:=Z l;have h:fG.length=27:=by decide
 have C:=Z h;have hd:=@Z (zH s=Lib.containsS (fG.take 27) s) (by unfold zH;rw [<-h,nA]);clear l h;go_enter func153,ntmps153
 go_wp2_with fail
 refine(aLw _ w r.o (by kernel_rfl)).mono ?_;rintro e w' ⟨rfl,rfl⟩
 go_wp2_with fail
 refine(Tryz.slices_Contains_string w.heap.size 0 27 27 fG s _ (by rw [C.o];omega) (by omega) (fun j y=>?_)).mono ?_
 ·rw [kO];simp [List.getD,y]
 rintro e w' ⟨rfl,rfl⟩;rw [<-hd.o];go_wp2;go_ret;exact⟨rfl,bJ⟩
def nC (s:ByteArray):Bool:=!s.toList.isEmpty && (decide (s.size<=200) && !zH s)
theorem aOa (s:ByteArray) (w:World) (r:Env w):Calls prog 105 #[.string s] w fun e w'=>e = .returned (.bool (nC s))/\Below w.heap.size w w':=by
 have hd:=@Z (nC s=(!s.toList.isEmpty && (decide (s.size<=200) && !zH s))) rfl;have E:=Z (aHa s w r);clear r;cases h:s.toList.isEmpty
 case true=>
  have j:=@Z (false=nC s) (by rw [hd.o,h];rfl);have G:s.toList = []:=by simpa using h
  clear h;go_enter func105,ntmps105
  go_wp2;go_ret;exact⟨aI j.o,aO _ _⟩
 case false=>
  by_cases l:s.size<=200
  ·have j:=@Z (nC s = !zH s) (by rw [hd.o,h];simp [l]);have C:(!s.toList.isEmpty)=true:=by rw [h];rfl
   have J:(s.size:Int)<=200:=by omega
   go_enter func105,ntmps105
   go_wp2_with fail
   refine E.o.mono ?_;rintro e K ⟨rfl,y⟩;have D:=Z y;clear y;go_wp2;go_ret;exact⟨aI j.o.symm,D.o⟩
  ·have j:=@Z (false=nC s) (by rw [hd.o,h];simp [l]);have C:(!s.toList.isEmpty)=true:=by rw [h];rfl
   have I:decide (s.size<=200)=false:=by simpa using l
   go_enter func105,ntmps105
   go_wp2;go_ret;exact⟨aI j.o,aO _ _⟩
structure kG where
 name:ByteArray
 args:List Int
 res:Int
def oZ:cH kG:=cH.map (fun f=>(f.name,f.args,f.res)) (.prod .str (.prod (.slice .int) .int))
def aUj:cH (Nat × Nat):=cH.map (fun m=>((m.1:Int),(m.2:Int))) (.prod .int .int)
theorem aWk:oZ.k=3:=rfl
theorem aWl:cH.str.k=1:=rfl
def eI (x:Int):Prop:=-9223372036854775808<=x/\x<=9223372036854775807
theorem qY {S:Nat->Prop} {w:World} {f:kG} {cs:List Value}:oZ.rd S w f cs↔∃a n c,cs = [.string f.name,.slice a n c,.int .i64 f.res]/\n<=c/\c<=maxLen/\bT cH.int S w a n f.args/\eI f.res:=by
 constructor
 ·rintro ⟨c,d,rfl,D,K,C,rfl,⟨a,n,y,G,h,j,l⟩,r,J⟩;have E:c = [.string f.name]:=D;have I:C = [.int .i64 f.res]:=r;subst E G I;exact⟨a,n,y,rfl,h,j,l,J⟩
 ·rintro ⟨a,n,c,rfl,h,j,l,r⟩;exact⟨[.string f.name],_,rfl,rfl,[.slice a n c],_,rfl,⟨a,n,c,rfl,h,j,l⟩,rfl,r⟩
def kB (X:Nat->Prop) (w:World) (k:Nat):Prop:=¬X k/\∃cs f,w.heap[k]? = some (.cells cs 3 f)
theorem kB.lt {X:Nat->Prop} {w:World} {k:Nat} (h:kB X w k):k<w.heap.size:=by obtain ⟨_,cs,f,h⟩:=h;exact(bH h).1
structure gE where
 sorts:List ByteArray
 funs:List kG
 marks:List (Nat × Nat)
structure kS (X:Nat->Prop) (B p:Nat) (T:gE) (w:World):Prop where
 bp:B<=p
 xlt:∀k,X k->k<w.heap.size
 blk:∃v1 v2 v3,w.heap[p]? = some (.cells #[v1,v2,v3] 168 (0,0))/\cA cH.str (fun _=>False) w B 9 v1 T.sorts/\cA oZ (kB X w) w B 114 v2 T.funs/\cA aUj (fun _=>False) w B 330 v3 T.marks
abbrev TabIs:=kS fun _=>False
section
variable {X : Nat -> Prop} {B p : Nat} {T : gE} {w w' W : World}
theorem kS.plt (h:kS X B p T w):p<w.heap.size:=by obtain ⟨v1,v2,v3,j,_⟩:=h.blk;exact(bH j).1
theorem qB {t:TypeId} {f:Nat × Nat} {v1 v2 v3:Value} (j:w.heap[p]? = some (.cells #[v1,v2,v3] t f)) {k:Nat}:eQ w p k↔k=p\/v1.ownBlock=some k\/v2.ownBlock=some k\/v3.ownBlock=some k:=by
 unfold eQ;constructor
 ·rintro (h | ⟨cs,t',f',h,v,r,l⟩)
  ·exact .inl h
  ·rw [j] at h;cases h;simp at r;rcases r with rfl | rfl | rfl
   ·exact .inr (.inl l)
   ·exact .inr (.inr (.inl l))
   ·exact .inr (.inr (.inr l))
 ·rintro (h | h | h | h)
  ·exact .inl h
  ·exact .inr ⟨_,_,_,j,v1,by simp,h⟩
  ·exact .inr ⟨_,_,_,j,v2,by simp,h⟩
  ·exact .inr ⟨_,_,_,j,v3,by simp,h⟩
theorem kS.ownB (h:kS X B p T w) {k:Nat} (j:eQ w p k):B<=k/\k<w.heap.size:=by
 obtain ⟨v1,v2,v3,C,l,r,y⟩:=h.blk;rcases (qB C).1 j with rfl | j | j | j
 ·exact⟨h.bp,h.plt⟩
 ·exact l.lt k j
 ·exact r.lt k j
 ·exact y.lt k j
theorem cO {k:Nat} {t t':TypeId} (l:t≠t') (h:∃cs f,w.heap[k]? = some (.cells cs t f)) (j:∃cs f,w.heap[k]? = some (.cells cs t' f)):False:=by
 obtain ⟨cs,f,h⟩:=h;obtain ⟨r,f',j⟩:=j;rw [h] at j;injection j with j
 injection j with _ j
 exact l j
theorem kS.ownI (h:kS X B p T w) {k:Nat} (j:eQ w p k):¬kB X w k:=fun l=>by
 obtain ⟨v1,v2,v3,r,y,C,D⟩:=h.blk;rcases (qB r).1 j with rfl | j | j | j
 ·exact cO (by decide) ⟨_,_,r⟩ l.2
 ·exact cO (by decide) (y.ty k j) l.2
 ·exact cO (by decide) (C.ty k j) l.2
 ·exact cO (by decide) (D.ty k j) l.2
theorem kB.same {k:Nat} (h:kB X w k) (j:w'.heap[k]? = w.heap[k]?):kB X w' k:=by obtain ⟨l,cs,f,h⟩:=h;exact⟨l,cs,f,j.trans h⟩
theorem cA.keepI {v:Value} {l:List kG} (h:cA oZ (kB X w) w B 114 v l) (r:∀k,kB X w k->w'.heap[k]? = w.heap[k]?) (C:∀k,v.ownBlock=some k->w'.heap[k]? = w.heap[k]?) (y:w.heap.size<=w'.heap.size):cA oZ (kB X w') w' B 114 v l:=
 (h.keep (fun b _ j=>r b j) C y).mono fun b _ j=>j.same (r b j)
theorem kS.keep (h:kS X B p T w) (l:∀k,eQ w p k->w'.heap[k]? = w.heap[k]?) (E:∀k,kB X w k->w'.heap[k]? = w.heap[k]?) (r:w.heap.size<=w'.heap.size):kS X B p T w':=by
 obtain ⟨v1,v2,v3,j,y,C,D⟩:=h.blk;refine⟨h.bp,fun k G=>bG (h.xlt k G) r,v1,v2,v3,(l p (.inl rfl)).trans j,y.keep (fun _ _ h=>h.elim) (fun k e=>l k ((qB j).2 (.inr (.inl e)))) r,C.keepI E (fun k e=>l k ((qB j).2 (.inr (.inr (.inl e))))) r,D.keep (fun _ _ h=>h.elim) (fun k e=>l k ((qB j).2 (.inr (.inr (.inr e))))) r⟩
theorem kS.all (h:kS X B p T w) (j:Below w.heap.size w w'):kS X B p T w':=h.keep (fun k l=>j.block k (h.ownB l).2) (fun k l=>j.block k l.lt) j.size
theorem kS.stepBelow (h:kS X B p T w) (l:iI p w w'):Below B w w':=l.below (aH h.bp (gM h.plt)) fun _ j=>(h.ownB j).1
end
section
variable {w W : World} {p i : Nat} {cs : Array Value} {t : TypeId} {v v' : Value}
theorem zJ (r:w.heap[p]? = some (.cells cs t (0,0))) (I:cs[i]? = some v) (h:w.grownBy W v.ownBlock) (Y:v.ownBlock≠some p) (U:v'.ownBlock=v.ownBlock\/∀k,v'.ownBlock=some k->w.heap.size<=k) :
  iI p w (W.setCell ⟨p,i,none⟩ v')/\(W.setCell ⟨p,i,none⟩ v').heap[p]? = some (.cells (cs.setIfInBounds i v') t (0,0))/\∀k,k≠p->(W.setCell ⟨p,i,none⟩ v').heap[k]? = W.heap[k]?:=by
 have V:=(bH r).1;have N:W.heap[p]? = some (.cells cs t (0,0)):=(h.block p V (lN Y)).trans r;have E:(W.setCell ⟨p,i,none⟩ v').heap[p]? = some (.cells (cs.setIfInBounds i v') t (0,0)):=by
  unfold World.setCell;rw [iN,if_pos rfl,N];rfl
 have G:∀k,k≠p->(W.setCell ⟨p,i,none⟩ v').heap[k]? = W.heap[k]?:=fun k y=>dZ _ _ _ _ (fun e=>y e)
 have O:i<cs.size:=(bH I).1;refine⟨⟨h.os,h.tape,h.output,by simpa [World.setCell] using h.size,fun k y D=>?_⟩,E,G⟩;have K:k≠p:=fun e=>D (.inl e)
 have L:v.ownBlock≠some k:=fun e=>D (.inr ⟨_,_,_,r,v,by rw [aGo];exact⟨i,I⟩,e⟩)
 refine⟨(G k K).trans (h.block k y (lN L)),?_⟩;rintro (e | ⟨Z,t',f',e,u,M,C⟩)
 ·exact K e
 ·rw [E] at e;cases e;rw [aGo] at M;obtain ⟨j,l⟩:=M;rw [xH] at l;by_cases J:i=j
  ·subst J;rw [if_pos rfl,if_pos O] at l;cases l;rcases U with e | e
   ·exact L (by rw [<-e];exact C)
   ·have:=e k C;omega
  ·rw [if_neg J] at l;exact D (.inr ⟨_,_,_,r,u,by rw [aGo];exact⟨j,l⟩,C⟩)
end
section
variable {X : Nat -> Prop} {B p : Nat} {T : gE} {w W : World} {v1 v2 v3 v' : Value}
theorem gZ {α β:Type} {R:cH α} {Q:cH β} {S S':Nat->Prop} {e j:TypeId} {v v':Value} {xs:List α} {ys:List β} {B l:Nat} (h:cA R S w B e v xs) (y:cA Q S' w l j v' ys) (D:e≠j) {k:Nat} (C:v.ownBlock=some k):v'.ownBlock≠some k:=
 fun r=>cO D (h.ty k C) (y.ty k r)
theorem kS.setSorts (h:kS X B p T w) (y:w.heap[p]? = some (.cells #[v1,v2,v3] 168 (0,0))) (r:w.grownBy W v1.ownBlock) (M:v'.ownBlock=v1.ownBlock\/∀k,v'.ownBlock=some k->w.heap.size<=k) {l:List ByteArray} (K:cA cH.str (fun _=>False) W B 9 v' l) :
  kS X B p { T with sorts:=l } (W.setCell ⟨p,0,none⟩ v')/\iI p w (W.setCell ⟨p,0,none⟩ v'):=by
 obtain ⟨u1,u2,u3,J,C,D,E⟩:=h.blk;rw [y] at J;cases J;have L:v1.ownBlock≠some p:=fun e=>cO (by decide) (C.ty p e) ⟨_,_,y⟩
 have O:v2.ownBlock≠some p:=fun e=>cO (by decide) (D.ty p e) ⟨_,_,y⟩
 have U:v3.ownBlock≠some p:=fun e=>cO (by decide) (E.ty p e) ⟨_,_,y⟩
 obtain ⟨Z,aa,I⟩:=zJ (v':=v') y (i:=0) rfl r L M;have V:W.heap[p]? = w.heap[p]?:=r.block p h.plt (lN L);have N:v'.ownBlock≠some p:=fun e=>cO (by decide) (K.ty p e) ⟨_,_,V.trans y⟩
 have G:(W.setCell ⟨p,0,none⟩ v').heap.size=W.heap.size:=by simp [World.setCell]
 refine⟨⟨h.bp,fun k Y=>bG (h.xlt k Y) (aH r.size (cD G.symm)),v',v2,v3,aa,K.keep (fun _ _ h=>h.elim) (fun k j=>I k fun e=>N (by rw [<-e];exact j)) (cD G.symm),D.keepI (fun k j=>?_) (fun k j=>?_) (by rw [G];exact r.size),E.keep (fun _ _ h=>h.elim) (fun k j=>?_) (by rw [G];exact r.size)⟩,Z⟩
 ·rw [I k fun e=>by subst e;exact cO (by decide) ⟨_,_,y⟩ j.2];exact r.block k j.lt fun e=>cO (by decide) (C.ty k e.symm) j.2
 ·rw [I k fun e=>O (by rw [<-e];exact j)];exact r.block k (D.lt k j).2 fun e=>gZ D C (by decide) j e.symm
 ·rw [I k fun e=>U (by rw [<-e];exact j)];exact r.block k (E.lt k j).2 fun e=>gZ E C (by decide) j e.symm
theorem kS.setFuns (h:kS X B p T w) (r:w.heap[p]? = some (.cells #[v1,v2,v3] 168 (0,0))) (y:w.grownBy W v2.ownBlock) (N:v'.ownBlock=v2.ownBlock\/∀k,v'.ownBlock=some k->w.heap.size<=k) {l:List kG} (K:cA oZ (kB X W) W B 114 v' l) :
  kS X B p { T with funs:=l } (W.setCell ⟨p,1,none⟩ v')/\iI p w (W.setCell ⟨p,1,none⟩ v'):=by
 obtain ⟨u1,u2,u3,J,C,I,D⟩:=h.blk;rw [r] at J;cases J;have U:v1.ownBlock≠some p:=fun e=>cO (by decide) (C.ty p e) ⟨_,_,r⟩
 have L:v2.ownBlock≠some p:=fun e=>cO (by decide) (I.ty p e) ⟨_,_,r⟩
 have V:v3.ownBlock≠some p:=fun e=>cO (by decide) (D.ty p e) ⟨_,_,r⟩
 obtain ⟨Z,aa,G⟩:=zJ (v':=v') r (i:=1) rfl y L N;have M:W.heap[p]? = w.heap[p]?:=y.block p h.plt (lN L);have O:v'.ownBlock≠some p:=fun e=>cO (by decide) (K.ty p e) ⟨_,_,M.trans r⟩
 have E:(W.setCell ⟨p,1,none⟩ v').heap.size=W.heap.size:=by simp [World.setCell]
 refine⟨⟨h.bp,fun k Y=>bG (h.xlt k Y) (aH y.size (cD E.symm)),v1,v',v3,aa,C.keep (fun _ _ h=>h.elim) (fun k j=>?_) (by rw [E];exact y.size),K.keepI (fun k j=>G k fun e=>?_) (fun k j=>G k fun e=>O (by rw [<-e];exact j)) (cD E.symm),D.keep (fun _ _ h=>h.elim) (fun k j=>?_) (by rw [E];exact y.size)⟩,Z⟩
 ·rw [G k fun e=>U (by rw [<-e];exact j)];exact y.block k (C.lt k j).2 fun e=>gZ C I (by decide) j e.symm
 ·subst e;exact cO (by decide) ⟨_,_,M.trans r⟩ j.2
 ·rw [G k fun e=>V (by rw [<-e];exact j)];exact y.block k (D.lt k j).2 fun e=>gZ D I (by decide) j e.symm
end
variable {X : Nat -> Prop}
theorem lE:(Tryz.prog.info? 3).map (fun i=>(i.zero,i.size,i.bytes))=some (some (.int .i64 0),1,8):=by kernel_rfl
theorem aIp:(Tryz.prog.info? 9).map (fun i=>(i.zero,i.size,i.bytes))=some (some (.string ByteArray.empty),1,16):=by kernel_rfl
theorem aIq:(Tryz.prog.info? 114).map (fun i=>(i.zero,i.size,i.bytes))=some (some (.agg #[.string ByteArray.empty,.slice none 0 0,.int .i64 0]),3,48):=by kernel_rfl
theorem E {w:World} {p:Nat} {cs:Array Value} {t:TypeId} {f:Nat × Nat} (h:w.heap[p]? = some (.cells cs t f)) (j:Nat):w.cell? ⟨p,j,none⟩=cs[j]?:=by simp [World.cell?,h]
theorem aQ {w:World} {p:Nat} {cs:Array Value} {t:TypeId} (h:w.heap[p]? = some (.cells cs t (0,0))) (j:Nat):w.frozen? ⟨p,j,none⟩=false:=by simp [World.frozen?,h]
theorem cT {w W:World} {o:Obj} {j:Option Nat} (h:(w.alloc o).grownBy W j):w.grownBy W j:=
 ⟨h.os,h.tape,h.output,aH (by simp) h.size,fun k l r=>(h.block k (by simp;omega) r).trans (fB w o k l)⟩
theorem bT.strs {S:Nat->Prop} {w:World} {a:Option Addr} {n:Nat} {zs:List ByteArray} (h:bT cH.str S w a n zs) (G:0<n):∃b o,a=some ⟨b,o,none⟩/\∀j,j<zs.length->w.cell? ⟨b,o+j,none⟩=some (.string (zs.getD j ByteArray.empty)):=by
 obtain ⟨b,o,D,_,_,E⟩:=h.2 G;refine⟨b,o,D,fun j r=>?_⟩;obtain ⟨cs,y,C⟩:=E j _ (cK r);have l:=C 0 (.string zs[j]) (by rw [show cs = [.string zs[j]] from y];rfl);rw [aWl] at l
 simpa [List.getD,r] using l
theorem aE1 {S:Nat->Prop} (a:Option Addr) (n c:Nat) (zs:List ByteArray) (x:ByteArray) (w:World) (h:bT cH.str S w a n zs) (C:n<=9223372036854775807) :
  Calls prog 106 #[.slice a n c,.string x] w fun e w'=>e = .returned (.bool (Lib.containsS zs x))/\w=w':=by
 rcases gD n with l | l
 ·subst l;have D:zs = []:=jR h.1;subst D;exact(Tryz.slices_Contains_string_empty a c x w).mono fun e w' ⟨j,r⟩=>⟨j,r.symm⟩
 ·obtain ⟨b,o,rfl,y⟩:=h.strs l;refine(Tryz.slices_Contains_string b o n c zs x w (cD h.1.symm) C y).mono fun e w' ⟨j,r⟩=>⟨?_,r.symm⟩
  rw [<-h.1,nA] at j;exact j
theorem aIr (w:World):Calls prog 56 #[] w fun e w'=>∃p,e = .returned (.pointer (some ⟨p,0,none⟩))/\TabIs w.heap.size p ⟨[],[],[]⟩ w'/\Below w.heap.size w w':=by
 go_enter func56,ntmps56
 go_wp2;go_ret;exact⟨w.heap.size,rfl,⟨aA,fun _ h=>h.elim,_,_,_,cC w _,cA.nil _ _ _ _ _,cA.nil _ _ _ _ _,cA.nil _ _ _ _ _⟩,bJ⟩
theorem kS.look {B p:Nat} {T:gE} {w:World} (h:kS X B p T w):∃j c1 l c2 r c3,w.heap[p]? = some (.cells #[.slice j T.sorts.length c1,.slice l T.funs.length c2,.slice r T.marks.length c3] 168 (0,0)) /\
  cA cH.str (fun _=>False) w B 9 (.slice j T.sorts.length c1) T.sorts/\cA oZ (kB X w) w B 114 (.slice l T.funs.length c2) T.funs/\cA aUj (fun _=>False) w B 330 (.slice r T.marks.length c3) T.marks:=by
 obtain ⟨v1,v2,v3,E,y,C,D⟩:=h.blk;obtain ⟨j,c1,rfl,_⟩:=y.slice;obtain ⟨l,c2,rfl,_⟩:=C.slice;obtain ⟨r,c3,rfl,_⟩:=D.slice;exact⟨j,c1,l,c2,r,c3,E,y,C,D⟩
def xK (n:Nat) (s:Int):Bool:=decide (0<=s) && decide (s<2+n)
theorem aHb (B p:Nat) (T:gE) (s:Int) (w:World) (h:kS X B p T w) (I:T.sorts.length<1099511627776):Calls prog 110 #[.pointer (some ⟨p,0,none⟩),.int .i64 s] w fun e w'=>e = .returned (.bool (xK T.sorts.length s))/\w=w':=by
 obtain ⟨y,c1,C,c2,D,c3,r,_⟩:=h.look;have J:w.cell? ⟨p,0,none⟩=some (.slice y T.sorts.length c1):=E r 0;have hd:=@Z (xK T.sorts.length s=(decide (0<=s) && decide (s<2+(T.sorts.length:Int)))) rfl;clear r h;generalize T.sorts.length=n at *;by_cases j:0<=s
 ·have l:=@Z (xK n s=decide (s<2+(n:Int))) (by rw [hd.o];simp [j]);go_enter func110,ntmps110
  go_wp2;go_ret;exact⟨aI l.o.symm,rfl⟩
 ·have l:=@Z (false=xK n s) (by rw [hd.o];simp [j]);have G:decide (0<=s)=false:=by simpa using j
  go_enter func110,ntmps110
  go_wp2;go_ret;exact⟨aI l.o,rfl⟩
def lO (T:gE) (s:ByteArray):Bool:=!nC s || Lib.containsS T.sorts s
def qC (X:Nat->Prop) (B p:Nat) (T:gE) (s:ByteArray) (w:World) (e:Ending) (w':World):Prop:=
 (if lO T s then e = .returned (.tuple #[.int .i64 0,.int .i64 1])/\kS X B p T w' else e = .returned (.tuple #[.int .i64 ((T.sorts.length:Int)+2),.int .i64 0])/\kS X B p { T with sorts:=T.sorts ++ [s] } w')/\iI p w w'
theorem aIs (B p:Nat) (T:gE) (s:ByteArray) (w:World) (h:kS X B p T w) (ad:Env w) (aq:T.sorts.length<1099511627776):Calls prog 57 #[.pointer (some ⟨p,0,none⟩),.string s] w fun e w'=>qC X B p T s w e w':=by
 have I:=Z h;have N:=Z (aOa s w ad);have hd:=@Z (lO T s=(!nC s || Lib.containsS T.sorts s)) rfl;clear h ad;cases r:nC s
 case false=>
  have L:=@Z (lO T s=true) (by rw [hd.o,r];rfl);rw [r] at N;clear r;go_enter func57,ntmps57
  go_wp2_with fail
  refine N.o.mono ?_;rintro e l ⟨rfl,y⟩;have J:=Z y;clear y;go_wp2;go_ret2;unfold qC;rw [if_pos L.o];exact⟨⟨rfl,I.o.all J.o⟩,.of_below I.o.plt J.o⟩
 rw [r] at N;obtain ⟨aB,ao,av,aw,ax⟩:=info_parts aIp;go_enter func57,ntmps57
 go_wp2_with fail
 refine N.o.mono ?_;rintro e l ⟨rfl,y⟩;have J:=Z y;have D:=Z (I.o.all y);obtain ⟨G,c1,a5,c2,a6,c3,K,ah,_⟩:=D.o.look;have ay:l.cell? ⟨p,0,none⟩=some (.slice G T.sorts.length c1):=E K 0;have al:l.frozen? ⟨p,0,none⟩=false:=aQ K 0;have ag:=ah.read (S':=fun _=>True) (fun _ _ _=>trivial) (fun _ _=>trivial);have M:=Z (aE1 G T.sorts.length c1 T.sorts s l ag (by omega));have am:=Z K;obtain ⟨css,ab,aj,ai⟩:=ah;have az:=Z ab;have a1:=Z aj;have a0:=Z ai;have af:=Z (show Value.ownBlock (.slice G T.sorts.length c1)≠some p from fun e=>cO (by decide) (ab.ty p e) ⟨_,_,K⟩);have aa:=D.o.plt;have a9:=aH D.o.bp (gM aa);clear y K ag ab aj ai;cases C:Lib.containsS T.sorts s
 case true=>
  have L:=@Z (lO T s=true) (by rw [hd.o,r,C];rfl);rw [C] at M;clear r C
  go_wp2_with fail
  refine M.o.mono ?_;rintro e w' ⟨rfl,rfl⟩;go_wp2;go_ret2;unfold qC;rw [if_pos L.o];exact⟨⟨rfl,D.o⟩,.of_below I.o.plt J.o⟩
 case false=>
  have L:=@Z (lO T s=false) (by rw [hd.o,r,C];rfl);rw [C] at M;clear r C;have aA:T.sorts.length<1099511627776:=aq
  go_wp2_with fail
  refine M.o.mono ?_;rintro e w' ⟨rfl,rfl⟩
  go_wp2_with (at_builtin;refine cI rfl (.tmp 25) (.tmp 27) rfl underlying60 ao av aw ax rfl (by decide) rfl rfl (az.o.alloc _) (Src.one (b:=l.heap.size) (news:=[.string s]) rfl ?c1) ?c2 ?c3 ?c4 ?c5 ?_)
  case c1=>intro j u O;rw [kO];simpa using O
  case c2=>intro u O;simp at O;subst O;rfl
  case c3=>unfold maxLen;omega
  case c4=>omega
  case c5=>simp;omega
  intro v' ak Y U ae;have V:=Z (cT U);have ar:=Z (show v'.ownBlock=Value.ownBlock (.slice G T.sorts.length c1)\/∀k,v'.ownBlock=some k->l.heap.size<=k from ae.imp id (fun an k ap=>Nat.le_of_succ_le (an k ap)));have au:=Z (cA.push (R:=cH.str) (S:=fun _=>False) (x:=s) a1.o a0.o (show cH.str.rd (fun _=>False) l s [.string s] from rfl) Y (fun _ _ h=>h.elim) (cT U).size);obtain ⟨a4,a7,rfl,_⟩:=Y.slice;have aC:ak.cell? ⟨p,0,none⟩=some (.slice G T.sorts.length c1):=by
   rw [sZ (w:=l) (a:=⟨p,0,none⟩) (V.o.block p aa (lN af.o))];exact ay
  have a8:ak.frozen? ⟨p,0,none⟩=false:=by
   rw [World.frozen?_of_block (w:=l) (a:=⟨p,0,none⟩) (V.o.block p aa (lN af.o))];exact al
  clear Y U ae;go_wp2;go_ret2;unfold qC;rw [if_neg (by rw [L.o];decide)];obtain ⟨a3,a2⟩:=D.o.setSorts am.o V.o ar.o au.o;refine⟨⟨?_,a3⟩,(iI.of_below I.o.plt J.o).trans a2⟩;have:(2:Int)+((T.sorts.length:Int)+1) - 1=(T.sorts.length:Int)+2:=by omega
  simp;omega
variable {X : Nat -> Prop}
theorem fI (w:World) (a b:Obj):((w.alloc a).alloc b).heap[w.heap.size]? = some a:=(fB _ _ _ (by simp)).trans (cC w a)
theorem eV (w:World) (a b:Obj):((w.alloc a).alloc b).heap[w.heap.size+1]? = some b:=by
 have:=cC (w.alloc a) b
 rwa [iD] at this
def WfI (xs:List Int):Prop:=∀x∈xs,-9223372036854775808<=x/\x<=9223372036854775807
theorem aFg (a:Option Addr) (n c:Nat) (xs:List Int) (w:World) (C:jQ w a n xs) (J:n<17592186044416) :
  Calls prog 119 #[.slice a n c] w fun e w'=>∃h l,e = .returned (.slice h n l)/\w'.ownsRow w.heap.size 3 1 (.slice h n l) n (xs.map (Value.int .i64))/\Below w.heap.size w w':=by
 by_cases E:0<n
 ·obtain ⟨b,o,rfl,_,G⟩:=C.cells E;refine(Tryz.slices_Clone_int b o n c xs w (by rw [C.len];exact aA) (by omega) (fun j I=>G j (by rw [<-C.len];exact I))).mono ?_;rintro e w' ⟨v',y,r,_,D⟩;rw [show xs.take n=xs by rw [<-C.len,nA]] at r;obtain ⟨h,l,rfl,_⟩:=(aW.of r).slice;exact⟨h,l,y,r,D⟩
 ·obtain rfl:n=0:=by omega
  have:xs = []:=jR C.len;subst this;cases a with
  |
   none=>
   refine(Tryz.slices_Clone_int_nil 0 c w).mono ?_;rintro e w' ⟨y,rfl⟩;exact⟨none,0,y,yU _ _ _ _,aO _ _⟩
  |
   some a=>
   refine(Tryz.slices_Clone_int_zero a c w).mono ?_;rintro e w' ⟨v',y,r,_,D⟩;obtain ⟨h,l,rfl,_⟩:=(aW.of r).slice;exact⟨h,l,y,r,D⟩
theorem aIt {w:World} {base n:Nat} {a:Option Addr} {m c:Nat} {xs:List Int} (h:w.ownsRow base 3 1 (.slice a m c) n (xs.map (Value.int .i64))) (E:WfI xs) (C:∀k,X k->k<base):m=n/\bT cH.int (kB X w) w a n xs/\m<=c/\c<=maxLen:=by
 obtain ⟨j,l,_⟩:=jQ.own h E;obtain ⟨J,K,D,r,y⟩:=(aW.of h).slice;cases D;refine⟨j,bT.ofI l fun x L G=>?_,r,y⟩;subst G;exact⟨fun I=>by have:=C _ I;have:=((aW.of h).lt _ rfl).1;omega,(aW.of h).ty _ rfl⟩
theorem jU {w:World} {p:Addr} {v:Value} {k:Nat}:kB X (w.setCell p v) k↔kB X w k:=by
 refine and_congr_right fun _=>?_
 unfold World.setCell;rw [iN];by_cases h:p.block=k
 ·subst h;rw [if_pos rfl];cases j:w.heap[p.block]? with
  | none=>simp
  |
   some o=>
   cases o with
   |
    cells cs e f=>
    simp only [Option.map_some]
    split <;> simp_all
   | _=>simp only [Option.map_some]
 ·rw [if_neg h]
theorem bT.intSet {w:World} {p:Addr} {v:Value} {a:Option Addr} {n:Nat} {xs:List Int} (h:bT cH.int (kB X w) w a n xs) (l:¬kB X w p.block):bT cH.int (kB X (w.setCell p v)) (w.setCell p v) a n xs:=
 (h.keep (fun b _ j=>dZ w p v b (fun e=>l (by rw [<-e];exact j))) (by simp [World.setCell])).mono fun b _ j=>jU.2 j
abbrev aC9 (nm:ByteArray) (a:Option Addr) (n c:Nat) (r:Int):Value:=.agg #[.string nm,.slice a n c,.int .i64 r]
def aUk (X:Nat->Prop) (nm:ByteArray) (xs:List Int) (r:Int) (w:World) (e:Ending) (w':World):Prop:=
 ∃a c,e = .returned (aC9 nm a xs.length c r)/\bT cH.int (kB X w') w' a xs.length xs/\xs.length<=c/\c<=maxLen/\Below w.heap.size w w'
theorem aIu (nm:ByteArray) (a:Option Addr) (n c:Nat) (r:Int) (xs:List Int) (w:World) (D:jQ w a n xs) (ah:n<17592186044416) (aa:∀k,X k->k<w.heap.size) :
  Calls prog 111 #[aC9 nm a n c r] w fun e w'=>aUk X nm xs r w e w':=by
 have aj:=Z D;have J:=Z D.len;have al:=Z (show WfI xs from D.wf);clear D;go_enter func111,ntmps111
 go_wp2_with fail
 have I:Below w.heap.size w ((w.alloc (.cells #[.string nm,.slice a n c,.int .i64 r] 114)).alloc (.cells #[.string ByteArray.empty,.slice none 0 0,.int .i64 0] 114)):=(bJ).alloc (by simp) _;have ab:=Z I;refine(aFg a n c xs _ (aj.o.below I aA) ah).mono ?_;rintro e j ⟨K,L,rfl,O,C⟩;obtain ⟨_,U,M,N⟩:=aIt (X:=X) O al.o (fun k ag=>by have:=aa k ag;simp;omega);have ai:=Z U;have ad:=Z C;have ae:=Z M;have af:=Z N;have ak:=C.size;simp only [iD] at ak;have y:=(C.block w.heap.size (by simp;omega)).trans (fI w _ _);have l:=(C.block (w.heap.size+1) (by simp)).trans (eV w _ _);have aq:j.cell? ⟨w.heap.size,0,none⟩=some (.string nm):=E y 0;have ar:j.cell? ⟨w.heap.size,1,none⟩=some (.slice a n c):=E y 1;have au:j.cell? ⟨w.heap.size,2,none⟩=some (.int .i64 r):=E y 2;have av:j.cell? ⟨w.heap.size+1,0,none⟩=some (.string ByteArray.empty):=E l 0;have aw:j.cell? ⟨w.heap.size+1,1,none⟩=some (.slice none 0 0):=E l 1;have ax:j.cell? ⟨w.heap.size+1,2,none⟩=some (.int .i64 0):=E l 2;have am:=aQ y 1;have an:=aQ l 0;have ao:=aQ l 1;have ap:=aQ l 2;have Y:=Z (show ¬kB X j w.heap.size from fun h=>cO (by decide) h.2 ⟨_,_,y⟩);have G:=Z (show ¬kB X j (w.heap.size+1) from fun h=>cO (by decide) h.2 ⟨_,_,l⟩);clear O C U M N I y l;go_wp2;refine bodyPost_ret (v:=aC9 nm K n L r) (by simp [results,results111,go_sem, *]) rfl ?_;refine⟨K,L,by rw [J.o],?_,by rw [J.o];exact ae.o,af.o,?_⟩
 ·rw [J.o];exact(((ai.o.intSet Y.o).intSet (fun h=>G.o (jU.1 h))).intSet (fun h=>G.o (jU.1 (jU.1 h)))).intSet (fun h=>G.o (jU.1 (jU.1 (jU.1 h))))
 ·have V:Below w.heap.size w j:=ab.o.trans (ad.o.mono (by simp;omega));exact(((V.setCell aA _).setCell (by simp) _).setCell (by simp) _).setCell (by simp) _
def eqS (a b:ByteArray):Bool:=a.toList == b.toList
theorem aLx (nm s:ByteArray) (a:Option Addr) (n c x:Nat) (r:Int) (w:World) (h:w.cell? ⟨x,0,none⟩=some (.string s)) :
  Calls prog 190 #[aC9 nm a n c r,.pointer (some ⟨x,0,none⟩)] w fun e w'=>e = .returned (.bool (eqS nm s))/\Below w.heap.size w w':=by
 have hd:=@Z (eqS nm s=(nm.toList == s.toList)) rfl;have j:=uK w _ h;go_enter func190,ntmps190
 go_wp2;go_ret;exact⟨aI hd.o.symm,bJ⟩
def uM {α:Type} (p:α->Bool):List α->Nat->Int
 | [],_=>-1
 | x :: xs,i=>if p x then i else uM p xs (i+1)
theorem aAr {α:Type} {p:α->Bool}:∀ {xs:List α} {k i:Nat},(∀j x,j<k->xs[j]? = some x->p x=false)->k<=xs.length->uM p xs i=uM p (xs.drop k) (i+k)
 | xs,0,i,_,_=>by simp
 | [],k+1,i,_,hk=>by simp at hk
 |
  x :: xs,k+1,i,h,hk=>by
  have l:=h 0 x (by omega) rfl;rw [dL,<-nB,Nat.add_right_comm,<-aAr (xs:=xs) (k:=k) (i:=i+1) (fun j y r hy=>h (j+1) y (by omega) (by simpa using hy)) (by simpa using hk)];show(if p x=true then(i:Int) else uM p xs (i+1))=_;rw [l];rfl
theorem rT {α:Type} {p:α->Bool} {xs:List α} {k:Nat} {x:α} (h:∀j x,j<k->xs[j]? = some x->p x=false) (l:xs[k]? = some x) (y:p x=true):uM p xs 0=k:=by
 have r:=(gK.1 l).1;rw [aAr h (by omega),dT,kY r];have:xs[k]=x:=(gK.1 l).2;unfold uM;rw [this,if_pos y]
theorem rU {α:Type} {p:α->Bool} {xs:List α} (h:∀j x,j<xs.length->xs[j]? = some x->p x=false):uM p xs 0 = -1:=by
 rw [aAr h aA,tG];rfl
theorem nQ {α:Type} {p:α->Bool}:∀(xs:List α) (i:Nat),match xs.find? p with
  | none=>uM p xs i = -1
  | some x=>∃k:Nat,uM p xs i=((i+k:Nat):Int)/\xs[k]? = some x
 | [],i=>rfl
 |
  x :: xs,i=>by
  rw [yZ];cases j:p x with
  | true=>exact⟨0,by unfold uM;rw [if_pos j];rfl,rfl⟩
  |
   false=>
   have:=nQ (p:=p) xs (i+1);have e:uM p (x :: xs) i=uM p xs (i+1):=by show(if p x=true then _ else _)=_;rw [j];rfl
   cases h:xs.find? p with
   | none=>rw [h] at this;dsimp only at this ⊢;rw [e];exact this
   |
    some y=>
    rw [h] at this;obtain ⟨k,l,r⟩:=this;exact⟨k+1,by rw [e,l];congr 1;omega,by simpa using r⟩
theorem bT.funAt {S:Nat->Prop} {w:World} {a:Option Addr} {n:Nat} {y:List kG} (h:bT oZ S w a n y) {k:Nat} {f:kG} (J:y[k]? = some f) :
  ∃b o l j,a=some ⟨b,o,none⟩/\w.cell? ⟨b,o+k * 3,none⟩=some (.string f.name)/\w.cell? ⟨b,o+k * 3+1,none⟩=some (.slice l f.args.length j)/\w.cell? ⟨b,o+k * 3+2,none⟩=some (.int .i64 f.res)/\bT cH.int S w l f.args.length f.args/\eI f.res/\f.args.length<=j/\j<=maxLen:=by
 obtain ⟨b,o,cs,I,_,K,r⟩:=h.at J;obtain ⟨l,L,j,rfl,D,E,C,G⟩:=qY.1 K;obtain rfl:L=f.args.length:=C.1.symm;rw [aWk] at r;exact⟨b,o,l,j,I,r 0 _ rfl,r 1 _ rfl,r 2 _ rfl,C,G,D,E⟩
theorem aE2 {S:Nat->Prop} (a:Option Addr) (n c x:Nat) (l:List kG) (s:ByteArray) (w:World) (h:bT oZ S w a n l) (aj:n<1099511627776) (L:w.cell? ⟨x,0,none⟩=some (.string s)) :
  Calls prog 189 #[.slice a n c,.func (.func 190) #[] #[.pointer (some ⟨x,0,none⟩)]] w fun e w'=>
   e = .returned (.int .i64 (uM (fun f:kG=>eqS f.name s) l 0))/\Below w.heap.size w w':=by
 have Y:=Z h;have O:=Z h.1;have ag:=Z L;have ad:=uK w _ L;clear h L;go_enter func189,ntmps189
 go_wp2
 go_loopw [4,5,8] (fun _ _ i wr=>∃k:Nat,k<=n/\i = .int .i64 k/\Hid (∀j f,j<k->l[j]? = some f->eqS f.name s=false)/\Hid (Below w.heap.size w wr)) (fun _ _ i _=>n - (intOf i).toNat)
 case atStart=>exact⟨0,aN,rfl,fun j f E=>absurd E (oX _),aO _ _⟩
 case round=>
  obtain ⟨k,ai,rfl,J,C⟩:=hrel;by_cases ae:k<n
  ·have ab:k<l.length:=by rw [O.o];exact ae
   have r:=cK ab;obtain ⟨b,o,U,V,rfl,ak,al,am,_⟩:=(Y.o.below C.o aA).funAt r;have N:wr.cell? ⟨x,0,none⟩=some (.string s):=by rw [C.o.cell (p:=⟨x,0,none⟩) ad];exact ag.o
   have G:=Z (aLx l[k].name s U l[k].args.length V x l[k].res wr N);have M:=Z r;clear r N;cases y:eqS l[k].name s
   case true=>
    have K:=Z (rT (p:=fun f:kG=>eqS f.name s) (fun j f E r=>J.o j f E r) M.o y);rw [y] at G;generalize l[k]=f at *;clear y
    go_wp2_with fail
    refine G.o.mono ?_;rintro e ah ⟨rfl,D⟩;have I:=Z (aG C D);clear D;go_wp2;go_ret;exact⟨mI K.o.symm,I.o⟩
   case false=>
    have af:=@Z (∀j f,j<k+1->l[j]? = some f->eqS f.name s=false) (fun j f E r=>by
     by_cases aa:j<k
     ·exact J.o j f aa r
     ·obtain rfl:j=k:=by omega
      rw [M.o] at r;cases r;exact y)
    rw [y] at G;generalize l[k]=f at *;clear y
    go_wp2_with fail
    refine G.o.mono ?_;rintro e ah ⟨rfl,D⟩;have I:=Z (aG C D);clear D;go_wp2
    go_roundw
    case rel=>exact⟨k+1,by omega,by go_num,af.o,I.o⟩
    case measure=>simp [intOf];omega
  ·have K:=Z (rU (p:=fun f:kG=>eqS f.name s) (xs:=l) (fun j f E r=>J.o j f (by have:=O.o;omega) r));go_wp2;go_ret;exact⟨mI K.o.symm,C.o⟩
variable {X : Nat -> Prop}
def jA (T:gE) (s:ByteArray):Option kG:=T.funs.find? fun f=>eqS f.name s
def qD:kG:=⟨ByteArray.empty,[],0⟩
def fM (T:gE) (s:ByteArray):kG:=(jA T s).getD qD
structure wV (T:gE):Prop where
 s:T.sorts.length<1099511627776
 f:T.funs.length<1099511627776
 m:T.marks.length<1099511627776
 a:∀f∈T.funs,f.args.length<1099511627776
def aV3 (X:Nat->Prop) (f:kG) (ok:Bool) (w:World) (e:Ending) (w':World):Prop:=
 ∃a c,e = .returned (.tuple #[aC9 f.name a f.args.length c f.res,.bool ok])/\bT cH.int (kB X w') w' a f.args.length f.args/\f.args.length<=c/\c<=maxLen/\Below w.heap.size w w'
theorem aIv (B p:Nat) (T:gE) (s:ByteArray) (w:World) (h:kS X B p T w) (ao:wV T) :
  Calls prog 156 #[.pointer (some ⟨p,0,none⟩),.string s] w fun e w'=>aV3 X (fM T s) (jA T s).isSome w e w':=by
 have a1:=Z h;have a9:=Z ao;have an:=h.plt;have a5:=ao.f;have hd:=@Z (jA T s=T.funs.find? fun f=>eqS f.name s) rfl;have J:Below w.heap.size w ((w.alloc (.cells #[.string s] 9)).alloc (.cells #[.string ByteArray.empty,.slice none 0 0,.int .i64 0] 114)):=(bJ).alloc (by simp) _;have ag:=Z J;have af:=h.all J;have ah:=(fB _ (.cells #[.string ByteArray.empty,.slice none 0 0,.int .i64 0] 114) _ (by simp)).trans (cC w (.cells #[.string s] 9));have aq:((w.alloc (.cells #[.string s] 9)).alloc (.cells #[.string ByteArray.empty,.slice none 0 0,.int .i64 0] 114)).cell? ⟨w.heap.size,0,none⟩=some (.string s):=E ah 0;obtain ⟨aJ,c1,O,c2,aK,c3,ai,_,ar,_⟩:=af.look;have ad:=E ai 1;simp only [dW,fF,dS] at ad;have aa:=ar.read (S':=fun _=>True) (fun _ _ _=>trivial) (fun _ _=>trivial);have a8:=Z aa;have G:=Z (aE2 O T.funs.length c2 w.heap.size T.funs s _ aa a5 aq);have al:w.cell? ⟨p,1,none⟩=some (.slice O T.funs.length c2):=by rw [<-J.cell (p:=⟨p,1,none⟩) an];exact ad
 clear h af J ah aq ai ar aa ad;have y:=nQ (p:=fun f:kG=>eqS f.name s) T.funs 0;rw [<-hd.o] at y;cases D:jA T s with
 |
  none=>
  rw [D] at y;dsimp only at y;rw [y] at G;have C:=@Z (fM T s=qD) (by unfold fM;rw [D];rfl);clear y D hd;go_enter func156,ntmps156
  go_wp2_with fail
  refine G.o.mono ?_;rintro e I ⟨rfl,l⟩;have ab:=l.size;simp only [iD] at ab;have j:=(l.block (w.heap.size+1) (by simp)).trans (eV w _ _);have aC:I.cell? ⟨w.heap.size+1,0,none⟩=some (.string ByteArray.empty):=E j 0;have aD:I.cell? ⟨w.heap.size+1,1,none⟩=some (.slice none 0 0):=E j 1;have aE:I.cell? ⟨w.heap.size+1,2,none⟩=some (.int .i64 0):=E j 2;have ay:=aQ j 0;have az:=aQ j 1;have a0:=aQ j 2;have K:=Z (ag.o.trans (l.mono (by simp;omega)));clear l j G;go_wp2;refine bodyPost_ret (v:=.tuple #[aC9 ⟨#[]⟩ none 0 0 0,.bool false]) (by simp [results,results156,go_sem, *]) rfl ?_;refine⟨none,0,by rw [C.o];rfl,by rw [C.o];exact bT.nil _ _ _ _,by rw [C.o];exact aA,aN,?_⟩;exact((K.o.setCell (by simp) _).setCell (by simp) _).setCell (by simp) _
 |
  some f=>
  rw [D] at y;dsimp only at y;obtain ⟨k,Y,M⟩:=y;rw [dT] at Y;rw [Y] at G;have aM:=(gK.1 M).1;have C:=@Z (fM T s=f) (by unfold fM;rw [D];rfl);have aL:=a9.o.a f (fP M);have a7:=Z M;clear Y D hd M;go_enter func156,ntmps156
  go_wp2_with fail
  refine G.o.mono ?_;rintro e I ⟨rfl,l⟩;have ab:=l.size;simp only [iD] at ab;have j:=(l.block (w.heap.size+1) (by simp)).trans (eV w _ _);have av:=Z j;have L:=ag.o.trans (l.mono (by simp;omega));have K:=Z L;have aF:I.cell? ⟨p,1,none⟩=some (.slice O T.funs.length c2):=by rw [L.cell (p:=⟨p,1,none⟩) an];exact al
  obtain ⟨b,o,aw,ax,rfl,aG,aH,aI,au,_⟩:=(a8.o.below l aA).funAt a7.o;have am:=Z (aIu f.name aw f.args.length ax f.res f.args I au.toI (by omega) (fun k a6=>bG (a1.o.xlt k a6) L.size));clear l G L au j al
  go_wp2_with fail
  refine am.o.mono ?_;rintro e N ⟨ae,c4,rfl,ap,aj,ak,V⟩;have r:=(V.block (w.heap.size+1) (by omega)).trans av.o;have aC:N.cell? ⟨w.heap.size+1,0,none⟩=some (.string ByteArray.empty):=E r 0;have aD:N.cell? ⟨w.heap.size+1,1,none⟩=some (.slice none 0 0):=E r 1;have aE:N.cell? ⟨w.heap.size+1,2,none⟩=some (.int .i64 0):=E r 2;have ay:=aQ r 0;have az:=aQ r 1;have a0:=aQ r 2;have U:=Z (show ¬kB X N (w.heap.size+1) from fun h=>cO (by decide) h.2 ⟨_,_,r⟩);have aB:=Z ap;have a3:=Z aj;have a4:=Z ak;have a2:=Z (K.o.trans (V.mono K.o.size));clear V r ap aj ak aF aG aH aI am;go_wp2;refine bodyPost_ret (v:=.tuple #[aC9 f.name ae f.args.length c4 f.res,.bool true]) (by simp [results,results156,go_sem, *]) rfl ?_;refine⟨ae,c4,by rw [C.o];rfl,by rw [C.o];exact((aB.o.intSet U.o).intSet (fun h=>U.o (jU.1 h))).intSet (fun h=>U.o (jU.1 (jU.1 h))),by rw [C.o];exact a3.o,a4.o,?_⟩;exact((a2.o.setCell (by simp) _).setCell (by simp) _).setCell (by simp) _
def oC (T:gE) (s:ByteArray):Bool:=nC s && !(jA T s).isSome
theorem aLy (B p:Nat) (T:gE) (s:ByteArray) (w:World) (h:kS X B p T w) (J:wV T) (I:Env w) :
  Calls prog 109 #[.pointer (some ⟨p,0,none⟩),.string s] w fun e w'=>e = .returned (.bool (oC T s))/\Below w.heap.size w w':=by
 have N:=Z (aIv B p T s w h J);have hd:=@Z (oC T s=(nC s && !(jA T s).isSome)) rfl;have L:=Z I;generalize fM T s=f at *;generalize (jA T s).isSome=O at *;clear h J I;go_enter func109,ntmps109
 go_wp2_with fail
 refine N.o.mono ?_;rintro e K ⟨a,c,rfl,_,_,_,y⟩;have V:=Z y;have D:=y.trans (((aO K.heap.size K).alloc aA (.cells #[.string f.name,.slice a f.args.length c,.int .i64 f.res] 114)).mono y.size);have M:=Z (L.o.all D);have r:=Z D;clear y D;have C:=Z (aOa s _ M.o);cases j:nC s
 case false=>
  have G:=@Z (false=oC T s) (by rw [hd.o,j];rfl);rw [j] at C;clear j
  go_wp2_with fail
  refine C.o.mono ?_;rintro e U ⟨rfl,l⟩;have E:=Z (r.o.trans (l.mono r.o.size));clear l;go_wp2;go_ret;exact⟨aI G.o,E.o⟩
 case true=>
  have G:=@Z ((!O)=oC T s) (by rw [hd.o,j];rfl);rw [j] at C;clear j
  go_wp2_with fail
  refine C.o.mono ?_;rintro e U ⟨rfl,l⟩;have E:=Z (r.o.trans (l.mono r.o.size));clear l;go_wp2;go_ret;exact⟨aI G.o,E.o⟩
def kJ (T:gE) (s:ByteArray):Int × Bool:=
 if s.toList == [66,111,111,108] then(0,true) else if s.toList == [82,101,97,108] then(1,true) else if Lib.idxOfS T.sorts s<0 then(0,false) else(2+Lib.idxOfS T.sorts s,true)
variable {X : Nat -> Prop}
theorem nR {v v':Value} {w:World} {o:Obj} (h:v'.ownBlock=v.ownBlock\/∀k,v'.ownBlock=some k->(w.alloc o).heap.size<=k):v'.ownBlock=v.ownBlock\/∀k,v'.ownBlock=some k->w.heap.size<=k:=
 h.imp id fun j k l=>by have:=j k l;rw [iD] at this;omega
theorem cell_grown {w W:World} {l:Option Nat} {p j:Nat} (h:w.grownBy W l) (r:p<w.heap.size) (y:l≠some p):W.cell? ⟨p,j,none⟩=w.cell? ⟨p,j,none⟩:=sZ (a:=⟨p,j,none⟩) (h.block p r (lN y))
theorem aHc {w W:World} {l:Option Nat} {p j:Nat} (h:w.grownBy W l) (r:p<w.heap.size) (y:l≠some p):W.frozen? ⟨p,j,none⟩=w.frozen? ⟨p,j,none⟩:=World.frozen?_of_block (a:=⟨p,j,none⟩) (h.block p r (lN y))
theorem aW.drew {w:World} {base:Nat} {e:TypeId} {size n:Nat} {v:Value} {xs:List Value} (h:aW w base e size v n xs):aW w.drew base e size v n xs:=h
variable {X : Nat -> Prop}
def mM (n:Nat) (s:Int):Bool:=s == 0 || !xK n s
def gF (T:gE) (f:kG):Int:=
 if !oC T f.name then 1 else if decide (64<f.args.length) then 1 else if !xK T.sorts.length f.res then 1 else if f.args.any (mM T.sorts.length) then 1 else if decide (1000<=T.funs.length) then 4 else 0
def uN (T:gE) (f:kG):gE:=if gF T f=0 then { T with funs:=T.funs ++ [f] } else T
def pL (X:Nat->Prop) (B p:Nat) (T:gE) (f:kG) (w:World) (e:Ending) (w':World):Prop:=
 e = .returned (.int .i64 (gF T f))/\kS X B p (uN T f) w'/\iI p w w'
theorem pL.no {B p:Nat} {T:gE} {f:kG} {w w':World} {z:Int} (h:kS X B p T w) (j:Below w.heap.size w w') (l:gF T f=z) (r:z≠0):pL X B p T f w (.returned (.int .i64 z)) w':=by
 refine⟨by rw [l],?_,.of_below h.plt j⟩;unfold uN;rw [l,if_neg r];exact h.all j
theorem cA.allI {B:Nat} {w w':World} {v:Value} {r:List kG} (h:cA oZ (kB X w) w B 114 v r) (j:Below w.heap.size w w'):cA oZ (kB X w') w' B 114 v r:=
 h.keepI (fun k l=>j.block k l.lt) (fun k l=>j.block k (h.lt k l).2) j.size
theorem aIw {B:Nat} {w w':World} (h:Below B w.drew w'):Below B w w':=⟨h.os,h.tape,h.output,h.size,h.block⟩
theorem aLz (x y z:Value) (w:World) (e:TypeId):∀j u,[x,y,z][j]? = some u->(w.alloc (.cells #[x,y,z] e)).cell? ⟨w.heap.size,j,none⟩=some u:=by
 intro j u h;rw [kO]
 simpa using h
theorem tN {s:ByteArray} {a:Option Addr} {n c:Nat} {y:Int}:∀u ∈ [Value.string s,.slice a n c,.int .i64 y],u.oneCell'=true:=by intro u h;simp at h;rcases h with rfl | rfl | rfl <;> rfl
theorem aBl {xs:List Int} {p:Int->Bool} (h:∀j,j<xs.length->p (nth xs j)=false):xs.any p=false:=by
 rw [oT];intro x r;obtain ⟨j,l,rfl⟩:=gU r;have:=h j l;rw [cE l] at this;simp [this]
theorem aQ2 {xs:List Int} {p:Int->Bool} {j:Nat} (l:j<xs.length) (h:p (nth xs j)=true):xs.any p=true:=oW.2 ⟨_,cB l,h⟩
theorem aOb (B p:Nat) (T:gE) (f:kG) (a:Option Addr) (c:Nat) (w:World) (h:kS X B p T w) (ae:wV T) (a4:Env w) (aE:jQ w a f.args.length f.args) (b5:f.args.length<1099511627776) :
  Calls prog 60 #[.pointer (some ⟨p,0,none⟩),aC9 f.name a f.args.length c f.res] w fun e w'=>pL X B p T f w e w':=by
 have J:=Z h;have b8:=Z ae;have bh:=Z aE;have hd:=@Z (gF T f=if !oC T f.name then 1 else if decide (64<f.args.length) then 1 else if !xK T.sorts.length f.res then 1 else if f.args.any (mM T.sorts.length) then 1 else if decide (1000<=T.funs.length) then 4 else 0) rfl;have ah:Below w.heap.size w (w.alloc (.cells #[.string f.name,.slice a f.args.length c,.int .i64 f.res] 114)):=bJ;have Y:=Z ah;have M:=Z (aLy B p T f.name _ (h.all ah) ae (a4.all ah));have b6:=h.plt;have aw:=ae.s;have b3:=ae.f;clear h ae aE a4 ah;obtain ⟨nm,args,r⟩:=f;dsimp only at *;cases I:oC T nm
 case false=>
  have y:=@Z (gF T ⟨nm,args,r⟩=1) (by rw [hd.o,I];rfl);rw [I] at M;clear I;go_enter func60,ntmps60
  go_wp2_with fail
  refine M.o.mono ?_;rintro e C ⟨rfl,l⟩;have D:=Z (Y.o.trans (l.mono (by simp)));clear l;go_wp2;go_ret;exact pL.no J.o D.o y.o (by decide)
 case true=>
 rw [I] at M;by_cases a3:64<args.length
 ·have y:=@Z (gF T ⟨nm,args,r⟩=1) (by rw [hd.o,I];simp [a3]);have b1:(64:Int)<args.length:=by omega
  clear I;go_enter func60,ntmps60
  go_wp2_with fail
  refine M.o.mono ?_;rintro e C ⟨rfl,l⟩;have af:=l.size;simp only [iD] at af;have G:=(l.block w.heap.size (by simp)).trans (cC w _);have aG:=E G 0;have aI:C.cell? ⟨w.heap.size,1,none⟩=some (.slice a args.length c):=E G 1;have D:=Z (Y.o.trans (l.mono (by simp)));clear l G aG;go_wp2;go_ret;exact pL.no J.o D.o y.o (by decide)
 cases K:xK T.sorts.length r
 case false=>
  have y:=@Z (gF T ⟨nm,args,r⟩=1) (by rw [hd.o,I,K];simp);clear I;go_enter func60,ntmps60
  go_wp2_with fail
  refine M.o.mono ?_;rintro e C ⟨rfl,l⟩;have af:=l.size;simp only [iD] at af;have G:=(l.block w.heap.size (by simp)).trans (cC w _);have aI:C.cell? ⟨w.heap.size,1,none⟩=some (.slice a args.length c):=E G 1;have bm:C.cell? ⟨w.heap.size,2,none⟩=some (.int .i64 r):=E G 2;have D:=Z (Y.o.trans (l.mono (by simp)));have U:=Z (aHb B p T r C (J.o.all D.o) aw);rw [K] at U;clear l G K
  go_wp2_with fail
  refine U.o.mono ?_;rintro e w' ⟨rfl,rfl⟩;go_wp2;go_ret;exact pL.no J.o D.o y.o (by decide)
 case true=>
 have ab:=@Z (gF T ⟨nm,args,r⟩=if args.any (mM T.sorts.length) then 1 else if decide (1000<=T.funs.length) then 4 else 0) (by rw [hd.o,I,K];simp [a3]);have aC:eI r:=by unfold xK at K;simp at K;unfold eI;omega
 have bg:=Z aC;clear I hd aC;obtain ⟨b9,bd,bj,bk,bl⟩:=info_parts aIq;go_enter func60,ntmps60
 go_wp2_with fail
 refine M.o.mono ?_;rintro e C ⟨rfl,l⟩;have af:=l.size;simp only [iD] at af;have G:=(l.block w.heap.size (by simp)).trans (cC w _);have aG:C.cell? ⟨w.heap.size,0,none⟩=some (.string nm):=E G 0;have aI:C.cell? ⟨w.heap.size,1,none⟩=some (.slice a args.length c):=E G 1;have bm:C.cell? ⟨w.heap.size,2,none⟩=some (.int .i64 r):=E G 2;have D:=Z (Y.o.trans (l.mono (by simp)));have am:=J.o.all D.o;have N:=Z am;have U:=Z (aHb B p T r C am aw);rw [K] at U;have a8:=Z (fun s=>aHb B p T s C N.o aw);obtain ⟨bu,c1,ao,c2,bv,c3,aa,bn,az,bo⟩:=am.look;have bA:C.cell? ⟨p,1,none⟩=some (.slice ao T.funs.length c2):=E aa 1;have bx:C.frozen? ⟨p,1,none⟩=false:=aQ aa 1;have bc:=Z aa;have aT:=Z az;have a0:=Z (bh.o.below D.o aA);have aB:=Z (show Value.ownBlock (.slice ao T.funs.length c2)≠some p from fun e=>cO (by decide) (az.ty p e) ⟨_,_,aa⟩);clear l G K am aa bn az bo M Y
 go_wp2_with fail
 refine U.o.mono ?_;rintro e w' ⟨rfl,rfl⟩;go_wp2
 go_loopw [4,6,28] (fun _ _ i wr=>∃k:Nat,k<=args.length/\i = .int .i64 k/\wr=C/\Hid (∀j,j<k->mM T.sorts.length (nth args j)=false)) (fun _ _ i _=>args.length - (intOf i).toNat)
 case atStart=>exact⟨0,aN,rfl,rfl,fun j ak=>absurd ak (oX _)⟩
 case round=>
  obtain ⟨k,b4,rfl,rfl,av⟩:=hrel;by_cases al:k<args.length
  ·obtain ⟨b,o,rfl,b0⟩:=a0.o.at k al;have aF:=Z (fun l=>aQ2 (p:=mM T.sorts.length) al l);have be:=Z (fun l:mM T.sorts.length (nth args k)=false=>show ∀j,j<k+1->mM T.sorts.length (nth args j)=false from fun j ak=>by
    by_cases e:j=k
    ·subst e;exact l
    ·exact av.o j (by omega))
   have ap:=@Z (mM T.sorts.length (nth args k)=(nth args k == 0 || !xK T.sorts.length (nth args k))) rfl;generalize nth args k=x at *;by_cases ay:x=0
   ·have y:=@Z (gF T ⟨nm,args,r⟩=1) (by rw [ab.o,aF.o (by rw [ap.o,ay];rfl)];rfl);subst ay;go_wp2;go_ret;exact pL.no J.o D.o y.o (by decide)
   have bi:(x == 0)=false:=by simpa using ay
   have aj:=Z (a8.o x);cases V:xK T.sorts.length x
   case false=>
    have y:=@Z (gF T ⟨nm,args,r⟩=1) (by rw [ab.o,aF.o (by rw [ap.o,V];simp)];rfl);rw [V] at aj;clear V
    go_wp2_with fail
    refine aj.o.mono ?_;rintro e w' ⟨rfl,rfl⟩;go_wp2;go_ret;exact pL.no J.o D.o y.o (by decide)
   case true=>
    have y:=Z (be.o (by rw [ap.o,V,bi];rfl));rw [V] at aj;clear V
    go_wp2_with fail
    refine aj.o.mono ?_;rintro e w' ⟨rfl,rfl⟩;go_wp2
    go_roundw
    case rel=>exact⟨k+1,by omega,by go_num,by trivial,y.o⟩
    case measure=>simp [intOf];omega
  ·obtain rfl:k=args.length:=by omega
   have ar:=Z (aBl (fun j ak=>av.o j ak));by_cases a2:1000<=T.funs.length
   ·have y:=@Z (gF T ⟨nm,args,r⟩=4) (by rw [ab.o,ar.o];simp [a2]);have ba:(1000:Int)<=T.funs.length:=by omega
    go_wp2;go_ret;exact pL.no J.o D.o y.o (by decide)
   ·have y:=@Z (gF T ⟨nm,args,r⟩=0) (by rw [ab.o,ar.o];simp [a2]);have ba:(T.funs.length:Int)<1000:=by omega
    have bf:=Z (aIu nm a args.length c r args wr.drew a0.o.drew (by omega) N.o.xlt);have ad:=N.o.plt;have b2:=aH N.o.bp (gM ad);clear av ar ab U a8;go_wp2
    go_region_law ((first
     | (
      refine bZ (by rfl) (.tmp 51) (.tmp 54) (by rfl) underlying104 bd bj bk bl rfl (by decide) (by rfl) (by rfl) (an.o.alloc _) (Src.one (b:=L.heap.size) (news:=[.string nm,.slice a1 args.length c4,.int .i64 r]) rfl (aLz _ _ _ L _)) tN (by unfold maxLen;omega) (by omega) (by simp;omega) ?_;intro v' aM au ai a9;obtain ⟨bt,bw,rfl,_,_⟩:=au.slice;have ag:=Z (cT ai);have aS:=Z (nR a9);have aU:=Z (cA.push (R:=oZ) (S:=kB X L) (x:=⟨nm,args,r⟩) aW.o aV.o (qY.2 ⟨a1,_,c4,rfl,aP.o,aR.o,aX.o,bg.o⟩) au (fun b al l=>(cT ai).block b al (fun e=>cO (by decide) (an.o.ty b e.symm) l.2)) (cT ai).size);have bB:=(cell_grown (j:=1) ag.o (bG ad ax) aB.o).trans bq;have bz:=(aHc (j:=1) ag.o (bG ad ax) aB.o).trans aZ;clear au ai a9)
     | (
      go_simp
      go_at_call 111
      refine bf.o.mono ?_;rintro e L ⟨a1,c4,rfl,aD,a6,a7,a5⟩;have O:=aIw a5;have aO:=Z O;have aY:=Z (N.o.all O);have aX:=Z aD;have aP:=Z a6;have aR:=Z a7;obtain ⟨css,aJ,aL,aK⟩:=aT.o.allI O;have an:=Z aJ;have aW:=Z aL;have aV:=Z aK;have ax:wr.heap.size<=L.heap.size:=O.size;have b7:p<L.heap.size:=bG ad ax;have aq:=Z ((O.block p ad).trans bc.o);have bq:L.cell? ⟨p,1,none⟩=some (.slice ao T.funs.length c2):=E aq.o 1;have aZ:L.frozen? ⟨p,1,none⟩=false:=aQ aq.o 1;clear aD a6 a7 a5 O aJ aL aK;dsimp only)))
    all_goals
     go_wp2;go_ret;have bb:∀b,b<aM.heap.size->kB X L b->kB X aM b:=fun b _ l=>l.same (ag.o.block b l.lt (fun e=>cO (by decide) (an.o.ty b e.symm) l.2))
     obtain ⟨bs,br⟩:=aY.o.setFuns aq.o ag.o aS.o (aU.o.mono bb);refine⟨by rw [y.o] <;> rfl,?_,((iI.of_below J.o.plt D.o).trans (iI.of_below N.o.plt aO.o)).trans br⟩;unfold uN;rw [y.o,if_pos rfl];exact bs
end Go.Proofs.YtgoojkiccdjplaaGreatDoor
namespace Go
open Go.Proofs.YtgoojkiccdjplaaGreatDoor
section
variable {P : Program} {ops : Array Oper} {Q : Exit -> Act -> World -> Prop} {md : Region.Mode} {S : World -> Prop}
def aDa (P:Program) (md:Region.Mode) (ops:Array Oper) (Q:Exit->Act->World->Prop) (S:World->Prop) (n g:Nat):Nat->Array Bool->Act->World->Prop
 | 0,listed,a,w=>Region.seqB md ops g n listed=true/\wpList P ops Q (ops.toList.drop n) a w
 | f+1,listed,a,w=>Region.ready md ops listed ≠ []/\∀i∈Region.ready md ops listed,i<n/\wpOp P ops Q i (fun a' w'=>S w'/\aDa P md ops Q S n g f (listed.setIfInBounds i true) a' w') a w
theorem aDb {n g:Nat} (l:(ops.toList.drop n).length=g):∀(f:Nat) (listed:Array Bool) (a:Act) (w:World),aDa P md ops Q S n g f listed a w->wpAny P md ops Q (f+g) listed a w
 |
  0,listed,a,w,h=>by
  rw [dT];have:=wpAny_of_seq (P:=P) (md:=md) (Q':=Q) (ops.toList.drop n) n listed a w (fun j=>by simp [tE]) (by rw [l];exact h.1) h.2
  rwa [l] at this
 |
  f+1,listed,a,w,h=>by
  rw [show f+1+g=(f+g)+1 by omega];exact⟨fun C=>absurd C h.1,fun i D=>wpOp_mono (fun r w' y=>aDb l f _ r w' y.2) (h.2 i D).2⟩
theorem aHd {n g i:Nat} {D:Oper} {v:Value} (N:ops[i]? = some D) (ae:∀(j:Nat) (o:Oper) cs b,ops[j]? = some o->o.op ≠ .select cs b)
  (ah:∀c a w,Q (.panic c) (a.put D.dst v) w->Q (.panic c) a w) (ad:Region.sinkB md ops n=true) (U:Region.chainB md ops n=true) (ab:n<ops.size) (Y:i<n) :
  ∀(f:Nat) (listed:Array Bool) (a:Act) (w:World),HeadInv md ops n listed ->
   (∀j E,ops[j]? = some E->j≠i->listed.getD j true=false->(∀e∈E.after,Region.binds md e=true->e.on≠i)->D.apart ops E=true) ->
   i∈Region.ready md ops listed->YieldsIf P ops S D v a->S w ->
   aDa P md ops Q S n g f (listed.setIfInBounds i true) (a.put D.dst v) w->aDa P md ops Q S n g (f+1) listed a w:=by
 intro f
 induction f with
 |
  zero=>
  intro listed a w M _ r hy G H;have C:=(mem_ready.1 r).1;refine⟨fun h=>(by rw [h] at r;cases r),fun j y=>?_⟩;have L:j<n:=by
   rcases nZ j n with h | h
   ·exact h
   ·exact absurd y (tail_waits ad U ab M _ i rfl Y C j h)
  refine⟨L,?_⟩;by_cases l:j=i
  ·subst l;exact hy.wpOp N G ⟨G,H⟩
  ·have:=seqB_ready H.1 j (ready_mono y l);omega
 |
  succ f ih=>
  intro listed a w M V r hy G H;have C:=(mem_ready.1 r).1;refine⟨fun h=>(by rw [h] at r;cases r),fun j y=>?_⟩;have L:j<n:=by
   rcases nZ j n with h | h
   ·exact h
   ·exact absurd y (tail_waits ad U ab M _ i rfl Y C j h)
  refine⟨L,?_⟩;by_cases l:j=i
  ·subst l;exact hy.wpOp N G ⟨G,H⟩
  ·have J:=(H.2 j (ready_mono y l)).2;obtain ⟨aa,E,O,ai⟩:=mem_ready.1 y;have aq:∀e∈E.after,Region.binds md e=true->e.on≠i:=fun e ak aj al=>by
    have J:=ai e ak aj;rw [al,getD_both C] at J;cases J
   have ag:=wpOp_putIf O (V j E O l aa aq) (fun cs b=>ae i D cs b N) (fun cs b=>ae j E cs b O) ah hy J;have am:∀k I,ops[k]? = some I->k≠i->(listed.setIfInBounds j true).getD k true=false ->
     (∀e∈I.after,Region.binds md e=true->e.on≠i)->D.apart ops I=true:=fun k I an ao C ap=>by
    refine V k I an ao ?_ ap;by_cases Z:j=k
    ·subst Z;exact aa
    ·rw [getD_set_ne true Z] at C;exact C
   refine wpOp_mono (fun af w' K=>⟨K.2.1,ih (listed.setIfInBounds j true) af w' (M.set y L) am (ready_mono r (lN l)) K.1 K.2.1 ?_⟩) ag;rw [Array.setIfInBounds_comm _ _ l];exact K.2.2
def aHe (md:Region.Mode) (ops:Array Oper) (n:Nat):Bool:=Region.noSelect ops && decide (n<ops.size) && Region.sinkB md ops n && Region.chainB md ops n
def TT (P:Program) (md:Region.Mode) (ops:Array Oper) (Q:Exit->Act->World->Prop) (S:World->Prop) (n g f:Nat) (listed:Array Bool) (a:Act) (w:World):Prop:=
 aHe md ops n=true->HeadInv md ops n listed->aDa P md ops Q S n g f listed a w
theorem aQ3 {n:Nat} (h:aHe md ops n=true):Region.noSelect ops=true/\n<ops.size/\Region.sinkB md ops n=true/\Region.chainB md ops n=true:=by
 simp only [aHe,jS,lA] at h;exact⟨h.1.1.1,h.1.1.2,h.1.2,h.2⟩
section
variable {n g f i : Nat} {listed : Array Bool} {a : Act} {w : World}
theorem aUl {l:Oper} {v:Value} (M:ops.toList[i]? = some l) (j:(decide (i<n) && Region.free md ops listed i && (Region.ready md ops listed).contains i)=true)
  (K:∀c a w,Q (.panic c) (a.put l.dst v) w->Q (.panic c) a w) (hy:YieldsIf P ops S l v a) (L:S w)
  (h:TT P md ops Q S n g f (listed.setIfInBounds i true) (a.put l.dst v) w):TT P md ops Q S n g (f+1) listed a w:=fun r D=>by
 obtain ⟨E,G,I,J⟩:=aQ3 r;simp only [jS,lA] at j;have C:i∈Region.ready md ops listed:=by simpa using j.2
 have y:ops[i]? = some l:=by simpa using M
 exact aHd y (Region.noSelect_spec E) K I J G j.1.1 f listed a w D (Region.free_spec y j.1.2) C hy L (h r (D.set C j.1.1))
theorem aE (i:Nat) {j:Oper} {v:Value} {l:Act} (h:TT P md ops Q S n g f (listed.setIfInBounds i true) l w) (G:ops.toList[i]? = some j:=by rfl) (r:(decide (i<n) && Region.free md ops listed i && (Region.ready md ops listed).contains i)=true:=by decide +kernel)
  (y:∀c a w,Q (.panic c) (a.put j.dst v) w->Q (.panic c) a w:=by exact fun _ _ _ h=>h) (hy:YieldsIf P ops S j v a:=by first | exact Or.inl ⟨by rfl,by(intro W D;(try dsimp only at D);go_simp <;> with_reducible rfl)⟩ | exact Or.inr ⟨by rfl,rfl⟩) (C:S w:=by assumption)
  (E:a.put j.dst v=l:=by first | (simp only [Act.put,sA,sB,sC];done) | (simp only [Act.put,sA,sB,sC];rfl) | rfl):TT P md ops Q S n g (f+1) listed a w:=aUl G r y hy C (by rw [E];exact h)
def aUm (P:Program) (md:Region.Mode) (ops:Array Oper) (Q:Exit->Act->World->Prop) (S:World->Prop) (n g f:Nat) (listed:Array Bool) (a:Act) (w:World) (rs:List Nat):Prop:=
 ∀i∈rs,wpOp P ops Q i (fun a' w'=>S w'/\TT P md ops Q S n g f (listed.setIfInBounds i true) a' w') a w
theorem gV:aUm P md ops Q S n g f listed a w []:=fun _ h=>by cases h
theorem cQ {o:Oper} {rs:List Nat} (E:ops.toList[i]? = some o)
  (h:∀l:Act->World->Prop,Shut (∀a w,S w->(S w->TT P md ops Q S n g f (listed.setIfInBounds i true) a w)->l a w)->if Region.wanted o (yielded ops a.tmps)=true then Oper.wp P o a w l Q else l (a.put o.dst undef) w)
  (G:aUm P md ops Q S n g f listed a w rs):aUm P md ops Q S n g f listed a w (i :: rs):=fun j r=>by
 rcases mB.1 r with rfl | r
 ·exact wpOp_step (by simpa using E) (fun l C=>h l (fun a w y D=>C a w ⟨y,D y⟩))
 ·exact G j r
theorem gW {rs:List Nat} (G:(decide (Region.ready md ops listed=rs) && rs.all (fun i=>decide (i<n)) && !rs.isEmpty)=true) (h:aUm P md ops Q S n g f listed a w rs):TT P md ops Q S n g (f+1) listed a w:=fun J K=>by
 simp only [jS,lA,oV,tA] at G;obtain ⟨⟨y,C⟩,D⟩:=G;refine⟨fun I=>(by rw [<-y,I] at D;cases D),fun j E=>?_⟩;have l:j∈rs:=by rw [<-y];exact E
 exact⟨C j l,wpOp_mono (fun L w' r=>⟨r.1,r.2 J (K.set E (C j l))⟩) (h j l)⟩
theorem aUn {ops:Array Oper} {R:World->Prop} {j:Oper} {v:Value} (k:∀W,S W->R W) (h:YieldsIf P ops R j v a):YieldsIf P ops S j v a:=h.imp (fun h=>⟨h.1,fun W l=>h.2 W (k W l)⟩) id
theorem aV (i:Nat) {o:Oper} {l:Act} (h:∀j:Act->World->Prop,Shut (∀a w,S w->(S w->TT P md ops Q S n g f (listed.setIfInBounds i true) a w)->j a w)->if Region.wanted o (yielded ops a.tmps)=true then Oper.wp P o a w j Q else j (a.put o.dst undef) w)
  (C:(decide (Region.ready md ops listed = [i]) && [i].all (fun i=>decide (i<n)) && ![i].isEmpty)=true:=by decide +kernel) (y:ops.toList[i]? = some o:=by rfl) (r:l=a:=by first | (simp only [Act.put,sA,sB,sC];done) | (simp only [Act.put,sA,sB,sC];rfl) | rfl):TT P md ops Q S n g (f+1) listed l w:=by rw [r];exact gW (rs:=[i]) C (cQ y h gV)
theorem dF (i:Nat) {j:Oper} {v:Value} {l:Act} {R:World->Prop} (k:∀W,S W->R W) (h:TT P md ops Q S n g f (listed.setIfInBounds i true) l w) (E:ops.toList[i]? = some j:=by rfl) (r:(decide (i<n) && Region.free md ops listed i && (Region.ready md ops listed).contains i)=true:=by decide +kernel)
  (y:∀c a w,Q (.panic c) (a.put j.dst v) w->Q (.panic c) a w:=by exact fun _ _ _ h=>h) (hy:YieldsIf P ops R j v a:=by exact Or.inl ⟨by rfl,by(intro W G;(try dsimp only at G);go_simp <;> with_reducible rfl)⟩) (C:S w:=by assumption)
  (D:a.put j.dst v=l:=by first | (simp only [Act.put,sA,sB,sC];done) | (simp only [Act.put,sA,sB,sC];rfl) | rfl):TT P md ops Q S n g (f+1) listed a w:=aE i h E r y (aUn k hy) C D
theorem cF (j:Region.seqB md ops g n listed=true) (h:wpList P ops Q (ops.toList.drop n) a w):TT P md ops Q S n g 0 listed a w:=fun _ _=>⟨j,h⟩
end
theorem bF {id:Nat} {l:List Oper} {a:Act} {w:World} (n:Nat) (D:P.follows .mixedOrders=true) (r:aHe .any l.toArray n=true) (C:S w.drew)
  (h:S w.drew->TT P .any l.toArray Q S n (l.length - n) n (Array.replicate l.length false) a w.drew):(Code.region id l.toArray true).wp P Q a w:=by
 obtain ⟨_,E,_,_⟩:=aQ3 r;have J:n<l.length:=by simpa using E
 have I:HeadInv .any l.toArray n (Array.replicate l.length false):=
  ⟨by simp,fun j K _ y=>(by rw [getD_replicate_false] at y;cases y),fun t _ G=>getD_in (by simpa using G) (getD_replicate_false _ _)⟩
 refine wp_region_any D ?_;have:=aDb (P:=P) (S:=S) (g:=l.length - n) (by simp) _ _ _ _ (h C r I);rw [show n+(l.length - n)=l.length by omega] at this
 simpa using this
end
end Go
namespace Go.Proofs.YtgoojkiccdjplaaGreatDoor
open Go.RowKit Go.Lib Go.Proofs.Tryz
section
variable {w W W' w0 : World} {base base' g size n : Nat} {e : TypeId} {v : Value} {xs us : List Value}
theorem aW.lit0 (j:g=w.heap.size) (h:base<=w.heap.size):aW (w.alloc (.cells #[] e)) base e size (.slice (some ⟨g,0,none⟩) 0 0) 0 []:=by
 subst j;refine⟨by simp,.inr ⟨w.heap.size,0,#[],rfl,h,?_,aA,aN,by simp,by simp⟩⟩;show(w.heap.push _)[w.heap.size]? = _;simp
theorem aW.lower (h:aW w base e size v n xs) (C:base'<=base):aW w base' e size v n xs:=
 ⟨h.1,h.2.imp id fun⟨g,j,cur,l,r,y⟩=>⟨g,j,cur,l,aH C r,y⟩⟩
theorem aW.drewN (h:aW w base e size v n xs) (q:Nat):aW (w.drewN q) base e size v n xs:=h.same fun _ _=>rfl
def kH (w:World) (s:Nat) (us:List Value):Prop:=∀(j:Nat) (u:Value),us[j]? = some u->w.cell? ⟨s,j,none⟩=some u
theorem kH.lit {s:Nat} (h:s=w.heap.size):kH (w.alloc (.cells us.toArray e)) s us:=fun j u l=>by
 subst h;rw [kO];simpa using l
theorem kH.lit1 {s:Nat} {u:Value} (h:s=w.heap.size):kH (w.alloc (.cells #[u] e)) s [u]:=kH.lit (us:=[u]) h
theorem Src.lit {s:Nat} (h:kH w s us) (j:us.length=size):Src w size (some ⟨s,0,none⟩) 1 us:=Src.one j h
theorem aF (w0:World):Below w0.heap.size w0 w0.drew:=⟨rfl,rfl,rfl,aA,fun _ _=>rfl⟩
theorem eJ (h:Below w0.heap.size w0 W) (o:Obj):Below w0.heap.size w0 (W.alloc o):=h.alloc h.size o
theorem eR {j:Option Nat} (h:Below w0.heap.size w0 W) (l:W.grownBy W' j) (r:∀k,j=some k->w0.heap.size<=k):Below w0.heap.size w0 W':=h.grown l h.size r
theorem aB {p:Addr} {u:Value} (h:Below w0.heap.size w0 W) (j:w0.cell? p=some u):W.cell? p=some u:=by
 rw [h.cell (p:=p) (uK w0 _ j)];exact j
end
theorem Src.keep {w0 W:World} {size m:Nat} {A:Option Addr} {news:List Value} (h:Src w0 size A m news) (y:Below w0.heap.size w0 W):Src W size A m news:=
 ⟨h.1,fun D=>by
  obtain ⟨l,r,C⟩:=h.2 D;exact⟨l,r,fun j u E=>aB y (C j u E)⟩⟩
section
variable {P : Program} {t e : TypeId} {a : Option Addr} {n c k s : Nat}
theorem aAs (r:P.underlying t=some (.slice e)) (l:∀w,(sizeOf e).run P w = .ok s w) (C:k<=n) (y:n<=c) (W:World) :
  (Instr.slice t (.slice a n c) none (some (.int .i64 k)) none).run P W = .ok (.slice a k c) W:=by
 have h:(if c=0 then a else a.map (·.add (0 * s)))=a:=by
  split
  ·rfl
  ·cases a <;> simp [Addr.add]
 simp only [nW] at h;have j:k<=c:=by omega
 simp [Instr.slice,Instr.sliceBounds,Instr.sliceBound,run_underlying r,l,j,asIntOf]
 simpa using h
def kV (a:Option Addr) (c k s:Nat):Option Addr:=if c=k then a else a.map (·.add (k * s))
theorem aAt (l:P.underlying t=some (.slice e)) (j:∀w,(sizeOf e).run P w = .ok s w) (h:k<=n) (r:n<=c) (W:World) :
  (Instr.slice t (.slice a n c) (some (.int .i64 k)) none none).run P W = .ok (.slice (kV a c k s) (n - k) (c - k)) W:=by
 have y:k<=c:=by omega
 unfold kV;simp [Instr.slice,Instr.sliceBounds,Instr.sliceBound,run_underlying l,j,h,asIntOf]
end
section
variable {α : Type} {R : cH α} {S : Nat -> Prop} {w : World} {a : Option Addr} {n : Nat} {xs : List α}
theorem bT.css (h:bT R S w a n xs):∃css:List (List Value),css.length=n/\(∀(j:Nat) (x:α),xs[j]? = some x->∃cs,css[j]? = some cs/\R.rd S w x cs)/\∀q,q<=n->∀m,q+m<=n->∀c,n<=c->Src w R.k (kV a c q R.k) m ((css.drop q).take m).flatten:=by
 obtain ⟨I,L⟩:=h;rcases gD n with K | K
 ·subst K;have:xs = []:=jR I;subst this;exact⟨[],rfl,by simp,fun q aq m aa c _=>by
   obtain rfl:m=0:=by omega
   simpa using Src.nothing (w:=w) (size:=R.k)⟩
 ·obtain ⟨b,o,af,ay,av,L⟩:=L K;have ag:∀i,i<n->∃cs:List Value,∃x,xs[i]? = some x/\R.rd S w x cs/\∀j u,cs[j]? = some u->w.cell? ⟨b,o+i * R.k+j,none⟩=some u:=fun i ax=>by
   obtain ⟨cs,D,C⟩:=L i _ (cK (by omega:i<xs.length));exact⟨cs,_,cK (by omega),D,C⟩
  have ao:∀m,m<=n->∃css:List (List Value),css.length=m/\∀j cs,css[j]? = some cs->∃x,xs[j]? = some x/\R.rd S w x cs/\∀i u,cs[i]? = some u->w.cell? ⟨b,o+j * R.k+i,none⟩=some u:=by
   intro m
   induction m with
   | zero=>exact fun _=>⟨[],rfl,by simp⟩
   |
    succ m ih=>
    intro aa;obtain ⟨css,D,C⟩:=ih (by omega);obtain ⟨cs,E⟩:=ag m (by omega);refine⟨css ++ [cs],by simp [D],fun j ds r=>?_⟩;by_cases N:j<css.length
    ·rw [mY N] at r;exact C j ds r
    ·have an:=(gK.1 r).1;rw [dM,kZ] at an;obtain rfl:j=m:=by omega
     rw [<-D,aN9] at r;cases r;exact E
  obtain ⟨css,D,C⟩:=ao n aA;have ai:∀cs∈css,cs.length=R.k:=fun cs G=>by
   obtain ⟨j,r,rfl⟩:=gU G;obtain ⟨x,_,E,_⟩:=C j _ (cK r);exact R.len E
  refine⟨css,D,fun j x ad=>?_,fun q aq m aa c aw=>?_⟩
  ·have r:j<css.length:=by have:=(gK.1 ad).1;omega
   obtain ⟨y,E,ae,_⟩:=C j _ (cK r);rw [ad] at E;cases E;exact⟨_,cK r,ae⟩
  ·have M:∀(l:List (List Value)),(∀cs∈l,cs.length=R.k)->l.flatten.length=l.length * R.k:=by
    intro l
    induction l with
    | nil=>intro _;simp
    | cons d l ih=>intro I;rw [yV,dM,I d (by simp),ih (fun cs h=>I cs (by simp [h])),fQ,aCw];omega
   have J:∀cs∈(css.drop q).take m,cs.length=R.k:=fun cs h=>ai cs (pV (sY h))
   have Z:((css.drop q).take m).length=m:=by rw [eS,kQ];omega
   refine⟨by rw [M _ J,Z],fun az=>?_⟩;have ap:c≠q:=by omega
   refine⟨⟨b,o+q * R.k,none⟩,by unfold kV;rw [if_neg ap,af];simp [lD],fun j u U=>?_⟩;rw [lD];have am:0<R.k:=by
    rcases gD R.k with O | O
    ·have:=(gK.1 U).1;rw [M _ J,O] at this;omega
    ·exact O
   have N:j<m * R.k:=by have:=(gK.1 U).1;rwa [M _ J,Z] at this
   have aj:=qT j R.k;have ar:j / R.k<m:=vK (by rw [dK];exact N);have ab:=gN j am;have ak:((css.drop q).take m)[j / R.k]? = css[q+j / R.k]?:=by rw [sS ar,tE]
   have G:q+j / R.k<css.length:=by omega
   obtain ⟨x,_,au,ah⟩:=C (q+j / R.k) _ (cK G);have Y:=R.len au;have V:=tM J (ak.trans (cK G)) (cK (show j % R.k<_ by rw [Y];exact ab));have al:j / R.k * R.k+j % R.k=j:=by rw [dK];exact aj
   rw [al] at V;rw [U] at V;cases V;have:=ah (j % R.k) _ (cK (by rw [Y];exact ab));rw [<-this]
   congr 2
   rw [fC];omega
end
theorem aL0 {a:Option Addr} {c s:Nat}:kV a c 0 s=a:=by
 unfold kV
 split
 ·rfl
 ·cases a <;> simp [Addr.add]
theorem jQ.srcs {w:World} {a:Option Addr} {n c q:Nat} {xs:List Int} (h:jQ w a n xs) (I:q<=n) (E:n<=c):Src w 1 a q ((xs.take q).map (Value.int .i64))/\Src w 1 (kV a c q 1) (n - q) ((xs.drop q).map (Value.int .i64)):=by
 have G:=h.len;refine⟨⟨by simp;omega,fun C=>?_⟩,⟨by simp;omega,fun C=>?_⟩⟩
 ·obtain ⟨b,o,rfl,_,r⟩:=h.cells (by omega);refine⟨_,rfl,fun j u l=>?_⟩;have y:=(gK.1 l).1;simp at y;rw [lD,r j (by omega)];rw [mZ,sS (by omega),cK (by omega:j<xs.length)] at l;simp at l;rw [<-l,cE (by omega)]
 ·obtain ⟨b,o,rfl,_,r⟩:=h.cells (by omega);have D:c≠q:=by omega
  refine⟨⟨b,o+q,none⟩,by unfold kV;rw [if_neg D];simp [lD],fun j u l=>?_⟩;have y:=(gK.1 l).1;simp at y;rw [lD,nB,r (q+j) (by omega)];rw [mZ,tE,cK (by omega:q+j<xs.length)] at l;simp at l;rw [<-l,cE (by omega)]
theorem aW.rdI {w:World} {base n:Nat} {e:TypeId} {a:Option Addr} {m c:Nat} {xs:List Int} (h:aW w base e 1 (.slice a m c) n (xs.map (Value.int .i64))) (C:∀x∈xs,-9223372036854775808<=x/\x<=9223372036854775807):m=n/\jQ w a n xs/\(∀y,a=some y->base<=y.block):=by
 have r:xs.length=n:=by simpa using h.1
 have l:=h.2;rcases l with ⟨l,rfl⟩ | ⟨g,G,cur,l,D,E,_⟩
 ·cases l;exact⟨rfl,⟨r,C,by omega⟩,by simp⟩
 ·cases l;refine⟨rfl,⟨r,C,fun _=>⟨g,0,rfl,(bH E).1,fun j I=>?_⟩⟩,by rintro y ⟨⟩;exact D⟩;have:=h.cells (g:=g) rfl j (.int .i64 (nth xs j)) (by rw [mZ,cK (by omega),cE (by omega)];rfl);rw [dT];exact this
section
variable {α : Type} {R : cH α} {S : Nat -> Prop} {w W : World} {xs ys : List α} {css dss : List (List Value)}
def jF (R:cH α) (S:Nat->Prop) (w:World) (xs:List α) (css:List (List Value)):Prop:=css.length=xs.length/\∀(j:Nat) (x:α),xs[j]? = some x->∃cs,css[j]? = some cs/\R.rd S w x cs
theorem jF.one {x:α} {cs:List Value} (h:R.rd S w x cs):jF R S w [x] [cs]:=⟨rfl,fun j y hy=>by
 cases j with
 | zero=>simp at hy;subst hy;exact⟨cs,rfl,h⟩
 | succ j=>simp at hy⟩
theorem jF.append (h:jF R S w xs css) (r:jF R S w ys dss):jF R S w (xs++ys) (css++dss):=⟨by rw [dM,dM,h.1,r.1],fun j x l=>by
 by_cases y:j<xs.length
 ·rw [mY y] at l;rw [mY (by rw [h.1];exact y)];exact h.2 j x l
 ·rw [oS (by omega)] at l;rw [oS (by rw [h.1];omega),h.1];exact r.2 _ x l⟩
theorem jF.at (h:jF R S w xs css) {cs:List Value} (C:cs∈css):∃x,R.rd S w x cs:=by
 obtain ⟨j,r,rfl⟩:=gU C;obtain ⟨ds,l,y⟩:=h.2 j _ (cK (by rw [<-h.1];exact r));rw [cK r] at l;cases l;exact⟨_,y⟩
theorem jF.ones (h:jF R S w xs css):∀u∈css.flatten,u.oneCell'=true:=fun u j=>by
 obtain ⟨cs,l,j⟩:=List.mem_flatten.1 j;obtain ⟨x,r⟩:=h.at l;exact R.one r u j
theorem jF.keep (h:jF R S w xs css) (y:∀b,b<w.heap.size->S b->W.heap[b]? = w.heap[b]?) (C:w.heap.size<=W.heap.size):jF R S W xs css:=⟨h.1,fun j x D=>by
 obtain ⟨cs,l,r⟩:=h.2 j x D;exact⟨cs,l,R.keep r y C⟩⟩
theorem jF.below (h:jF R S w xs css) (j:Below w.heap.size w W):jF R S W xs css:=h.keep (fun b l _=>j.block b l) j.size
theorem jF.own {base n:Nat} {e:TypeId} {v:Value} (h:jF R S w xs css) (l:aW w base e R.k v n css.flatten) (j:n=xs.length):cA R S w base e v xs:=by
 subst j;exact⟨css,l,h.1,h.2⟩
theorem cA.pairs {base:Nat} {e:TypeId} {v:Value} (h:cA R S w base e v xs):∃css,aW w base e R.k v xs.length css.flatten/\jF R S w xs css:=by
 obtain ⟨css,j,l,r⟩:=h;exact⟨css,j,l,r⟩
theorem bT.pairs {a:Option Addr} {n:Nat} (h:bT R S w a n xs):∃css,jF R S w xs css/\(∀q,q<=n->Src w R.k a q (css.take q).flatten)/\∀q,q<=n->∀c,n<=c->Src w R.k (kV a c q R.k) (n - q) (css.drop q).flatten:=by
 obtain ⟨css,j,y,l⟩:=h.css;refine⟨css,⟨by rw [j,h.1],y⟩,fun q r=>?_,fun q r c C=>?_⟩
 ·have:=l 0 aN q (by omega) n aA;rw [aL0,cW] at this;exact this
 ·have:=l q r (n - q) (by omega) c C
  rwa [fL (by rw [kQ,j];exact aA)] at this
end
end Go.Proofs.YtgoojkiccdjplaaGreatDoor
namespace Go.Proofs.YtgoojkiccdjplaaGreatDoor
open Go.RowKit Go.Maps Go.Proofs.Tryz
def zK (v:Value):Option (DataW Value × List MemPlace):=some (.held v,[])
def aB3 (x:ByteArray):Lit:=.string x.data.toList
def okS (x:ByteArray):Prop:=x.size<=maxLen
theorem aIx (x:ByteArray):WideAt.IsKeyLit (aB3 x):=by simp [aB3,WideAt.IsKeyLit]
theorem aOc {x y:ByteArray} (h:x≠y):aB3 x≠aB3 y:=fun e=>h (by
 have j:x.data.toList=y.data.toList:=by simpa [aB3] using e
 obtain ⟨a⟩:=x;obtain ⟨b⟩:=y;simp at j;rw [j])
def qQ (P:Program) (k:TypeId) (b n:Nat) (F:ByteArray->Option Value) (w:World):Prop:=
 ∃D:DataW Value,w.ownsMap P k zK b n D/\Maps.size D=n/\∀x,Maps.has D (aB3 x)=(F x).isSome/\∀z,D.atKey (aB3 x) (.held z) = .held ((F x).getD z)
def aDc (F:ByteArray->Option Value) (x:ByteArray) (v:Option Value):ByteArray->Option Value:=fun y=>if y=x then v else F y
theorem aO7 (F:ByteArray->Option Value) (x:ByteArray) (v:Option Value):aDc F x v x=v:=by simp [aDc]
theorem aL1 (F:ByteArray->Option Value) {x y:ByteArray} (v:Option Value) (h:y≠x):aDc F x v y=F y:=by simp [aDc,h]
variable {P : Program} {k t e : TypeId} {b n : Nat} {F : ByteArray -> Option Value} {w w' : World}
theorem qQ.lt (h:qQ P k b n F w):b<w.heap.size:=by obtain ⟨j,h,_⟩:=h;exact h.lt
theorem qQ.made (w:World):qQ P k w.heap.size 0 (fun _=>none) (w.alloc (.map #[] 0)):=
 ⟨.map [],World.ownsMap_made w P k zK,rfl,fun _=>⟨rfl,fun _=>rfl⟩⟩
theorem qQ.same (h:qQ P k b n F w) (D:w'.heap[b]? = w.heap[b]?):qQ P k b n F w':=by
 obtain ⟨j,⟨y,l,E,r⟩,C⟩:=h;exact⟨j,⟨y,l,D.trans E,r⟩,C⟩
theorem qQ.look (h:qQ P k b n F w) (r:P.underlying k=some .string) (E:P.underlying t=some (.map k e)) {z:Value} (I:(zeroValue e).run P w = .ok z w) {x:ByteArray} (G:okS x) :
  (Instr.lookup t (.map (some b)) (.string x) false).run P w = .ok ((F x).getD z) w:=by
 obtain ⟨J,y,K,C⟩:=h;obtain ⟨v,ps,D,j⟩:=y.lookup (string_keyed r) E I (zd:=.held z) (zp:=[]) rfl (aGl r G);have l:=(C x).2 z;unfold aB3 at l;rw [l] at j;simp only [zK,aGz,Prod.mk.injEq,aG2] at j;rw [D,j.1]
theorem qQ.look_ok (h:qQ P k b n F w) (C:P.underlying k=some .string) (G:P.underlying t=some (.map k e)) {z:Value} (J:(zeroValue e).run P w = .ok z w) {x:ByteArray} (I:okS x) :
  (Instr.lookup t (.map (some b)) (.string x) true).run P w = .ok (.tuple #[(F x).getD z,.bool (F x).isSome]) w:=by
 obtain ⟨K,E,L,y⟩:=h;obtain ⟨v,ps,D,j⟩:=E.look_ok (string_keyed C) G J (zd:=.held z) (zp:=[]) rfl (aGl C I);have l:=(y x).2 z;have r:=(y x).1;unfold aB3 at l r;rw [l] at j;rw [r] at D;simp only [zK,aGz,Prod.mk.injEq,aG2] at j;rw [D,j.1]
theorem qQ.store (h:qQ P k b n F w) (D:P.underlying k=some .string) (Y:P.underlying t=some (.map k e)) (O:n<maxLen) {x:ByteArray} (Z:okS x) (v:Value) :
  ∃w',(Instr.mapUpdate t (.map (some b)) (.string x) v).run P w = .ok () w'/\qQ P k b (if (F x).isSome then n else n+1) (aDc F x (some v)) w'/\w.mapTurned w' b:=by
 obtain ⟨l,j,M,C⟩:=h;obtain ⟨w',V,U,N⟩:=j.store (string_keyed D) Y O (aGl D Z) (d:=.held v) (ps:=[]) (val:=v) rfl;have E:=size_put (j.tidy (string_keyed D)) (k:=aB3 x) (.held v);rw [(C x).1,M] at E;refine⟨w',V,⟨l.put (aB3 x) (.held v),?_,E,fun y=>?_⟩,N⟩
 ·obtain ⟨r,K,I,J,aa,G⟩:=U;refine⟨r,K,I,J,?_,G⟩;have L:Maps.size (l.put (aB3 x) (.held v))=r.size:=by
   show Maps.size (l.put (.string x.data.toList) (.held v))=r.size;rw [G];simp [Maps.size,length_sorted]
  rw [<-L,E];exact aA
 ·by_cases hy:y=x
  ·subst hy;rw [aO7];exact⟨has_put_same j.isMap (aIx y) _,fun z=>by rw [atKey_put_same j.isMap (aIx y)];rfl⟩
  ·rw [aL1 F _ hy];exact⟨by rw [has_put_other (aOc hy)];exact(C y).1,fun z=>by rw [atKey_put_other (aOc hy)];exact(C y).2 z⟩
structure cJ where
 neg:Bool
 num:List Int
 den:List Int
structure aZ where
 op:Int
 name:ByteArray
 val:cJ
 args:List Int
 sort:Int
def okU (x:Int):Prop:=0<=x/\x<=18446744073709551615
def cH.u64:cH Int where
 k:=1
 rd _ _ x cs:=cs = [.int .u64 x]/\okU x
 len h:=by rw [h.1];rfl
 one h:=by rw [h.1];intro u hu;simp at hu;subst hu;rfl
 keep h _ _:=h
 mono h _:=h
def aQ4:cH cJ:=cH.map (fun r=>(r.neg,r.num,r.den)) (.prod .bool (.prod (.slice .u64) (.slice .u64)))
def uO:cH aZ:=cH.map (fun n=>(n.op,n.name,n.val,n.args,n.sort)) (.prod .int (.prod .str (.prod aQ4 (.prod (.slice .int) .int))))
def aE3:cH (Bool × Bool):=.prod .bool .bool
theorem aWm:uO.k=7:=rfl
theorem aWn:aE3.k=2:=rfl
theorem zL {S:Nat->Prop} {w:World} {r:cJ} {cs:List Value}:aQ4.rd S w r cs↔∃a n c b m d,cs = [.bool r.neg,.slice a n c,.slice b m d]/\n<=c/\c<=maxLen/\bT cH.u64 S w a n r.num/\m<=d/\d<=maxLen/\bT cH.u64 S w b m r.den:=by
 constructor
 ·rintro ⟨x,y,rfl,G,x',y',rfl,⟨a,n,c,J,h,j,l⟩,⟨b,m,d,K,C,D,E⟩⟩;have I:x = [.bool r.neg]:=G;subst I J K;exact⟨a,n,c,b,m,d,rfl,h,j,l,C,D,E⟩
 ·rintro ⟨a,n,c,b,m,d,rfl,h,j,l,C,D,E⟩;exact⟨[.bool r.neg],_,rfl,rfl,[.slice a n c],_,rfl,⟨a,n,c,rfl,h,j,l⟩,⟨b,m,d,rfl,C,D,E⟩⟩
structure eD (S:Nat->Prop) (w:World) (x:aZ) (a:Option Addr) (c:Nat) (b:Option Addr) (d:Nat) (g:Option Addr) (e:Nat):Prop where
 num:bT cH.u64 S w a x.val.num.length x.val.num
 nc:x.val.num.length<=c/\c<=maxLen
 den:bT cH.u64 S w b x.val.den.length x.val.den
 dc:x.val.den.length<=d/\d<=maxLen
 args:bT cH.int S w g x.args.length x.args
 ac:x.args.length<=e/\e<=maxLen
 op:eI x.op
 sort:eI x.sort
def wW (x:aZ) (a:Option Addr) (c:Nat) (b:Option Addr) (d:Nat) (g:Option Addr) (e:Nat):List Value:=
 [.int .i64 x.op,.string x.name,.bool x.val.neg,.slice a x.val.num.length c,.slice b x.val.den.length d,.slice g x.args.length e,.int .i64 x.sort]
theorem vT {S:Nat->Prop} {w:World} {x:aZ} {cs:List Value}:uO.rd S w x cs↔∃a c b d g e,cs=wW x a c b d g e/\eD S w x a c b d g e:=by
 constructor
 ·rintro ⟨p,q,rfl,⟨D,j⟩,N,ad,rfl,E,aa,ae,rfl,I,ab,O,rfl,⟨g,m,e,J,K,L,l⟩,M,r⟩;obtain ⟨a,n,c,b,k,d,rfl,U,V,y,Y,Z,C⟩:=zL.1 I;have j:p = [.int .i64 x.op]:=D;have G:N = [.string x.name]:=E;have r:O = [.int .i64 x.sort]:=M;subst j G r J;obtain rfl:n=x.val.num.length:=y.1.symm;obtain rfl:k=x.val.den.length:=C.1.symm;obtain rfl:m=x.args.length:=l.1.symm;exact⟨a,c,b,d,g,e,rfl,y,⟨U,V⟩,C,⟨Y,Z⟩,l,⟨K,L⟩,by assumption,by assumption⟩
 ·rintro ⟨a,c,b,d,g,e,rfl,h⟩;exact⟨[.int .i64 x.op],_,rfl,⟨rfl,h.op⟩,[.string x.name],_,rfl,rfl,[.bool x.val.neg,.slice a x.val.num.length c,.slice b x.val.den.length d],_,rfl,zL.2 ⟨a,_,c,b,_,d,rfl,h.nc.1,h.nc.2,h.num,h.dc.1,h.dc.2,h.den⟩,[.slice g x.args.length e],_,rfl,⟨g,_,e,rfl,h.ac.1,h.ac.2,h.args⟩,rfl,h.sort⟩
theorem aC1 {S:Nat->Prop} {w:World} {x:Bool × Bool} {cs:List Value}:aE3.rd S w x cs↔cs = [.bool x.1,.bool x.2]:=by
 constructor
 ·rintro ⟨p,q,rfl,h,l⟩;have j:p = [.bool x.1]:=h;have r:q = [.bool x.2]:=l;subst j r;rfl
 ·rintro rfl;exact⟨[.bool x.1],[.bool x.2],rfl,rfl,rfl⟩
section
variable {S S' : Nat -> Prop} {w w' : World} {x : aZ} {a b g : Option Addr} {c d e : Nat}
theorem eD.keep (h:eD S w x a c b d g e) (j:∀y,y<w.heap.size->S y->w'.heap[y]? = w.heap[y]?) (l:w.heap.size<=w'.heap.size):eD S w' x a c b d g e:=
 ⟨h.num.keep j l,h.nc,h.den.keep j l,h.dc,h.args.keep j l,h.ac,h.op,h.sort⟩
theorem eD.mono (h:eD S w x a c b d g e) (j:∀y,y<w.heap.size->S y->S' y):eD S' w x a c b d g e:=
 ⟨h.num.mono j,h.nc,h.den.mono j,h.dc,h.args.mono j,h.ac,h.op,h.sort⟩
theorem eD.below (h:eD S w x a c b d g e) (j:Below w.heap.size w w'):eD S w' x a c b d g e:=h.keep (fun y hy _=>j.block y hy) j.size
end
def dU (w:World) (k:Nat):Prop:=∃cs f,w.heap[k]? = some (.cells cs 3 f)\/w.heap[k]? = some (.cells cs 177 f)
def rI (X:Nat->Prop) (w:World) (k:Nat):Prop:=¬X k/\dU w k
theorem dU.lt {w:World} {k:Nat} (h:dU w k):k<w.heap.size:=by
 obtain ⟨cs,f,h | h⟩:=h
 ·exact(bH h).1
 ·exact(bH h).1
theorem dU.same {w w':World} {k:Nat} (h:dU w k) (j:w'.heap[k]? = w.heap[k]?):dU w' k:=by obtain ⟨cs,f,h⟩:=h;exact⟨cs,f,by rw [j];exact h⟩
theorem dU.ne {w:World} {k:Nat} {t:TypeId} (h:dU w k) (l:t≠3) (r:t≠177) (j:∃cs f,w.heap[k]? = some (.cells cs t f)):False:=by
 obtain ⟨cs,f,h | h⟩:=h
 ·exact cO l j ⟨_,_,h⟩
 ·exact cO r j ⟨_,_,h⟩
def gR (p:Nat) (w:World) (k:Nat):Prop:=eQ w p k\/∃cs t f,w.heap[p]? = some (.cells cs t f)/\∃v∈cs.toList,v = .map (some k)
structure dA (p:Nat) (w w':World):Prop where
 os:w'.os=w.os
 tape:w'.tape=w.tape
 output:w'.output=w.output
 size:w.heap.size<=w'.heap.size
 block:∀k,k<w.heap.size->¬gR p w k->w'.heap[k]? = w.heap[k]? /\ ¬gR p w' k
section
variable {p : Nat} {w w' w'' : World}
theorem gR.same (h:w'.heap[p]? = w.heap[p]?) {k:Nat}:gR p w' k↔gR p w k:=by unfold gR;rw [eQ.same h,h]
theorem dA.refl (p:Nat) (w:World):dA p w w:=⟨rfl,rfl,rfl,aA,fun _ _ h=>⟨rfl,h⟩⟩
theorem dA.trans (h:dA p w w') (k:dA p w' w''):dA p w w'':=
 ⟨k.os.trans h.os,k.tape.trans h.tape,k.output.trans h.output,aH h.size k.size,fun i j y=>by
  obtain ⟨l,C⟩:=h.block i j y;obtain ⟨r,D⟩:=k.block i (bG j h.size) C;exact⟨r.trans l,D⟩⟩
theorem dA.of_below (r:p<w.heap.size) (h:Below w.heap.size w w'):dA p w w':=
 ⟨h.os,h.tape,h.output,h.size,fun k j l=>⟨h.block k j,fun e=>l ((gR.same (h.block p r)).1 e)⟩⟩
theorem dA.below {B:Nat} (h:dA p w w') (l:B<=w.heap.size) (j:∀k,gR p w k->B<=k):Below B w w':=
 ⟨h.os,h.tape,h.output,h.size,fun k r=>(h.block k (by omega) (fun e=>by have:=j k e;omega)).1⟩
end
structure aC where
 nodes:List aZ
 nums:List (Bool × Bool)
 ids:ByteArray->Option Int
 cnt:Nat
 fresh:Int
 S:gE
 /-- blocks of a caller's own, which the table neither reads nor writes -/
 X:Nat->Prop
def mV (ids:ByteArray->Option Int):ByteArray->Option Value:=fun k=>(ids k).map (Value.int .i64)
structure dO (B p:Nat) (T:aC) (w:World) (q:Nat) (v1 v2:Value) (m:Nat):Prop where
 bp:B<=p
 blk:w.heap[p]? = some (.cells #[.pointer (some ⟨q,0,none⟩),v1,v2,.map (some m),.int .i64 T.fresh,.int .i64 16384] 130 (0,0))
 nodes:cA uO (rI T.X w) w B 38 v1 T.nodes
 nums:cA aE3 (fun _=>False) w B 190 v2 T.nums
 ids:qQ prog 9 m T.cnt (mV T.ids) w
 bm:B<=m
 srtX:∃Bs,kS T.X Bs q T.S w
 xlt:∀k,T.X k->k<w.heap.size/\¬gR p w k/\¬eQ w q k
theorem kS.toIs {X:Nat->Prop} {B p:Nat} {T:gE} {w:World} (h:kS X B p T w):TabIs B p T w:=by
 obtain ⟨v1,v2,v3,j,y,C,D⟩:=h.blk;exact⟨h.bp,fun k l=>l.elim,v1,v2,v3,j,y,C.mono fun b _ j=>⟨fun r=>r,j.2⟩,D⟩
theorem dO.srt {B p:Nat} {T:aC} {w:World} {q:Nat} {v1 v2:Value} {m:Nat} (h:dO B p T w q v1 v2 m):∃j,TabIs j q T.S w:=by obtain ⟨j,h⟩:=h.srtX;exact⟨j,h.toIs⟩
def dG (B p:Nat) (T:aC) (w:World):Prop:=∃q v1 v2 m,dO B p T w q v1 v2 m
section
variable {B p : Nat} {T : aC} {w w' W : World} {q m : Nat} {v1 v2 : Value}
theorem dO.plt (h:dO B p T w q v1 v2 m):p<w.heap.size:=(bH h.blk).1
theorem qQ.noCells {P:Program} {k:TypeId} {b n:Nat} {F:ByteArray->Option Value} {w:World} (h:qQ P k b n F w) {cs:Array Value} {t:TypeId} {f:Nat × Nat}:w.heap[b]? ≠ some (.cells cs t f):=by
 obtain ⟨l,⟨y,r,j,_⟩,_⟩:=h;rw [j];intro e;cases e
theorem aWo {t:TypeId} {f:Nat × Nat} {u0 u1 u2:Value} {q m:Nat} {x y:Int} (C:u0 = .pointer (some ⟨q,0,none⟩)) (l:w.heap[p]? = some (.cells #[u0,u1,u2,.map (some m),.int .i64 x,.int .i64 y] t f)) (D:∀a,u1 ≠ .map a) (E:∀a,u2 ≠ .map a) {k:Nat} :
  gR p w k↔k=p\/u1.ownBlock=some k\/u2.ownBlock=some k\/k=m:=by
 subst C;unfold gR eQ;constructor
 ·rintro ((h | ⟨cs,t',f',h,v,r,j⟩) | ⟨cs,t',f',h,v,r,j⟩)
  ·exact .inl h
  ·rw [l] at h;cases h;simp at r;rcases r with rfl | rfl | rfl | rfl | rfl | rfl
   ·simp [Value.ownBlock] at j
   ·exact .inr (.inl j)
   ·exact .inr (.inr (.inl j))
   ·simp [Value.ownBlock] at j
   ·simp [Value.ownBlock] at j
   ·simp [Value.ownBlock] at j
  ·rw [l] at h;cases h;simp at r;rcases r with rfl | rfl | rfl | rfl | rfl | rfl
   ·cases j
   ·exact absurd j (D _)
   ·exact absurd j (E _)
   ·cases j;exact .inr (.inr (.inr rfl))
   ·cases j
   ·cases j
 ·rintro (h | h | h | h)
  ·exact .inl (.inl h)
  ·exact .inl (.inr ⟨_,_,_,l,u1,by simp,h⟩)
  ·exact .inl (.inr ⟨_,_,_,l,u2,by simp,h⟩)
  ·subst h;exact .inr ⟨_,_,_,l,_,by simp,rfl⟩
theorem cA.noMap {α:Type} {R:cH α} {S:Nat->Prop} {w:World} {base:Nat} {e:TypeId} {v:Value} {xs:List α} (h:cA R S w base e v xs):∀a,v ≠ .map a:=fun a e=>by
 obtain ⟨l,c,j,_⟩:=h.slice;rw [j] at e;cases e
theorem dO.own (h:dO B p T w q v1 v2 m) {k:Nat}:gR p w k↔k=p\/v1.ownBlock=some k\/v2.ownBlock=some k\/k=m:=aWo rfl h.blk h.nodes.noMap h.nums.noMap
theorem dO.ownB (h:dO B p T w q v1 v2 m) {k:Nat} (j:gR p w k):B<=k/\k<w.heap.size:=by
 rcases h.own.1 j with rfl | j | j | rfl
 ·exact⟨h.bp,h.plt⟩
 ·exact h.nodes.lt k j
 ·exact h.nums.lt k j
 ·exact⟨h.bm,h.ids.lt⟩
theorem dO.ownTy (h:dO B p T w q v1 v2 m) {k:Nat} (l:gR p w k) {cs:Array Value} {t:TypeId} {f:Nat × Nat} (j:w.heap[k]? = some (.cells cs t f)):t=130\/t=38\/t=190:=by
 rcases h.own.1 l with rfl | l | l | rfl
 ·have:=h.blk;rw [this] at j;cases j;exact .inl rfl
 ·obtain ⟨y,f',r⟩:=h.nodes.ty k l;rw [r] at j;cases j;exact .inr (.inl rfl)
 ·obtain ⟨y,f',r⟩:=h.nums.ty k l;rw [r] at j;cases j;exact .inr (.inr rfl)
 ·exact absurd j h.ids.noCells
theorem dO.notOwn (h:dO B p T w q v1 v2 m) {k:Nat} {t:TypeId} (j:∃cs f,w.heap[k]? = some (.cells cs t f)) (l:t≠130) (r:t≠38) (y:t≠190):¬gR p w k:=fun C=>by
 obtain ⟨cs,f,j⟩:=j;rcases h.ownTy C j with e | e | e
 ·exact l e
 ·exact r e
 ·exact y e
theorem dO.notDat (h:dO B p T w q v1 v2 m) {k:Nat} (hd:dU w k):¬gR p w k:=by
 obtain ⟨cs,f,hd | hd⟩:=hd
 ·exact h.notOwn ⟨_,_,hd⟩ (by decide) (by decide) (by decide)
 ·exact h.notOwn ⟨_,_,hd⟩ (by decide) (by decide) (by decide)
theorem dO.notSrt (h:dO B p T w q v1 v2 m) {r:Nat} {X:Nat->Prop} (E:kS X r q T.S w) {k:Nat} (j:eQ w q k):¬gR p w k:=by
 obtain ⟨u1,u2,u3,l,y,C,D⟩:=E.blk;rcases (qB l).1 j with rfl | j | j | j
 ·exact h.notOwn ⟨_,_,l⟩ (by decide) (by decide) (by decide)
 ·exact h.notOwn (y.ty k j) (by decide) (by decide) (by decide)
 ·exact h.notOwn (C.ty k j) (by decide) (by decide) (by decide)
 ·exact h.notOwn (D.ty k j) (by decide) (by decide) (by decide)
theorem kB.dat {X:Nat->Prop} {w:World} {k:Nat} (h:kB X w k):rI X w k:=by obtain ⟨j,cs,f,h⟩:=h;exact⟨j,cs,f,.inl h⟩
theorem rI.same {X:Nat->Prop} {w w':World} {k:Nat} (h:rI X w k) (j:w'.heap[k]? = w.heap[k]?):rI X w' k:=⟨h.1,h.2.same j⟩
theorem cA.keepD {X:Nat->Prop} {v:Value} {xs:List aZ} (h:cA uO (rI X w) w B 38 v xs) (l:∀k,rI X w k->w'.heap[k]? = w.heap[k]?) (y:∀k,v.ownBlock=some k->w'.heap[k]? = w.heap[k]?) (r:w.heap.size<=w'.heap.size):cA uO (rI X w') w' B 38 v xs:=
 (h.keep (fun b _ j=>l b j) y r).mono fun b _ j=>j.same (l b j)
theorem dO.keep (h:dO B p T w q v1 v2 m) (j:∀k,gR p w k->w'.heap[k]? = w.heap[k]?) (hd:∀k,rI T.X w k->w'.heap[k]? = w.heap[k]?) (C:∀k,eQ w q k->w'.heap[k]? = w.heap[k]?) (l:w.heap.size<=w'.heap.size):dO B p T w' q v1 v2 m:=by
 obtain ⟨D,E⟩:=h.srtX;have y:=j p (h.own.2 (.inl rfl));have I:=C q (.inl rfl);exact⟨h.bp,y.trans h.blk,h.nodes.keepD hd (fun k e=>j k (h.own.2 (.inr (.inl e)))) l,h.nums.keep (fun _ _ h=>h.elim) (fun k e=>j k (h.own.2 (.inr (.inr (.inl e))))) l,h.ids.same (j m (h.own.2 (.inr (.inr (.inr rfl))))),h.bm,⟨D,E.keep C (fun k G=>hd k G.dat) l⟩,
  fun k r=>⟨bG (h.xlt k r).1 l,fun e=>(h.xlt k r).2.1 ((gR.same y).1 e),fun e=>(h.xlt k r).2.2 ((eQ.same I).1 e)⟩⟩
theorem dO.all (h:dO B p T w q v1 v2 m) (l:Below w.heap.size w w'):dO B p T w' q v1 v2 m:=by
 obtain ⟨y,r⟩:=h.srt;exact h.keep (fun k j=>l.block k (h.ownB j).2) (fun k j=>l.block k j.2.lt) (fun k j=>l.block k (r.ownB j).2) l.size
theorem dG.excl (h:dG B p T w) {X':Nat->Prop} (l:∀k,k<w.heap.size->¬T.X k->w'.heap[k]? = w.heap[k]?) (y:w.heap.size<=w'.heap.size) (G:∀k,X' k->(T.X k\/w.heap.size<=k)/\k<w'.heap.size):dG B p { T with X:=X' } w':=by
 obtain ⟨q,v1,v2,m,h⟩:=h;obtain ⟨M,D⟩:=h.srtX;have j:∀k,gR p w k->w'.heap[k]? = w.heap[k]?:=fun k j=>l k (h.ownB j).2 fun e=>(h.xlt k e).2.1 j
 have r:∀k,eQ w q k->w'.heap[k]? = w.heap[k]?:=fun k j=>l k (D.ownB j).2 fun e=>(h.xlt k e).2.2 j
 have hd:∀k,rI T.X w k->w'.heap[k]? = w.heap[k]?:=fun k j=>l k j.2.lt j.1
 have C:=h.keep j hd r y;have V:=D.keep r (fun k E=>hd k E.dat) y;have L:∀k,rI T.X w k->¬X' k:=fun k j e=>(G k e).1.elim j.1 fun e=>by have:=j.2.lt;omega
 obtain ⟨u1,u2,u3,J,N,O,U⟩:=D.blk;refine⟨q,v1,v2,m,C.bp,C.blk,(h.nodes.keep (fun b _ l=>hd b l) (fun k e=>j k (h.own.2 (.inr (.inl e)))) y).mono fun k _ K=>⟨L k K,K.2.same (hd k K)⟩,C.nums,C.ids,C.bm,⟨M,D.bp,fun k e=>(G k e).2,u1,u2,u3,(r q (.inl rfl)).trans J,N.keep (fun _ _ h=>h.elim) (fun k e=>r k ((qB J).2 (.inr (.inl e)))) y,?_,U.keep (fun _ _ h=>h.elim) (fun k e=>r k ((qB J).2 (.inr (.inr (.inr e))))) y⟩,fun k e=>⟨(G k e).2,fun o=>?_,fun o=>?_⟩⟩
 ·exact(O.keep (fun b _ l=>hd b l.dat) (fun k e=>r k ((qB J).2 (.inr (.inr (.inl e))))) y).mono fun k _ E=>⟨L k E.dat,(E.same (hd k E.dat)).2⟩
 ·have I:=(gR.same (j p (h.own.2 (.inl rfl)))).1 o;rcases (G k e).1 with e | e
  ·exact(h.xlt k e).2.1 I
  ·have:=(h.ownB I).2;omega
 ·have I:=(eQ.same (r q (.inl rfl))).1 o;rcases (G k e).1 with e | e
  ·exact(h.xlt k e).2.2 I
  ·have:=(D.ownB I).2;omega
theorem dG.all (h:dG B p T w) (j:Below w.heap.size w w'):dG B p T w':=by obtain ⟨q,v1,v2,m,h⟩:=h;exact⟨q,v1,v2,m,h.all j⟩
theorem dG.plt (h:dG B p T w):p<w.heap.size:=by obtain ⟨q,v1,v2,m,h⟩:=h;exact h.plt
theorem dG.stepBelow (h:dG B p T w) (l:dA p w w'):Below B w w':=by
 obtain ⟨q,v1,v2,m,h⟩:=h;exact l.below (aH h.bp (gM h.plt)) fun _ j=>(h.ownB j).1
theorem dG.dat (h:dG B p T w) (j:dA p w w') {k:Nat} (hd:dU w k):w'.heap[k]? = w.heap[k]?:=by
 obtain ⟨q,v1,v2,m,h⟩:=h;exact(j.block k hd.lt (h.notDat hd)).1
theorem dG.stay (h:dG B p T w) (D:dA p w w') {k:Nat} {t:TypeId} (C:∃cs f,w.heap[k]? = some (.cells cs t f)) (l:t≠130) (r:t≠38) (y:t≠190):w'.heap[k]? = w.heap[k]?:=by
 obtain ⟨q,v1,v2,m,h⟩:=h;obtain ⟨cs,f,j⟩:=C;exact(D.block k (bH j).1 (h.notOwn ⟨cs,f,j⟩ l r y)).1
theorem dO.put (h:dO B p T w q v1 v2 m) {v1' v2':Value} (ai:W.os=w.os) (aq:W.tape=w.tape) (aj:W.output=w.output) (Y:w.heap.size<=W.heap.size)
  (M:∀k,k<w.heap.size->v1.ownBlock≠some k->v2.ownBlock≠some k->W.heap[k]? = w.heap[k]?)
  (ad:v1'.ownBlock=v1.ownBlock\/∀k,v1'.ownBlock=some k->w.heap.size<=k) (ae:v2'.ownBlock=v2.ownBlock\/∀k,v2'.ownBlock=some k->w.heap.size<=k) {l:List aZ} {U:List (Bool × Bool)}
  (N:cA uO (rI T.X W) W B 38 v1' l) (O:cA aE3 (fun _=>False) W B 190 v2' U) :
  dO B p { T with nodes:=l,nums:=U } ((W.setCell ⟨p,1,none⟩ v1').setCell ⟨p,2,none⟩ v2') q v1' v2' m/\dA p w ((W.setCell ⟨p,1,none⟩ v1').setCell ⟨p,2,none⟩ v2'):=by
 have ak:v1.ownBlock≠some p:=fun e=>cO (by decide) (h.nodes.ty p e) ⟨_,_,h.blk⟩
 have am:v2.ownBlock≠some p:=fun e=>cO (by decide) (h.nums.ty p e) ⟨_,_,h.blk⟩
 have ao:W.heap[p]? = w.heap[p]?:=M p h.plt ak am;have J:=ao.trans h.blk;have al:v1'.ownBlock≠some p:=fun e=>cO (by decide) (N.ty p e) ⟨_,_,J⟩
 have an:v2'.ownBlock≠some p:=fun e=>cO (by decide) (O.ty p e) ⟨_,_,J⟩
 generalize C:(W.setCell ⟨p,1,none⟩ v1').setCell ⟨p,2,none⟩ v2'=y;have G:∀k,k≠p->y.heap[k]? = W.heap[k]?:=fun k j=>by
  subst C;exact(dZ _ _ _ _ (fun e=>j e)).trans (dZ _ _ _ _ (fun e=>j e))
 have Z:y.heap[p]? = some (.cells #[.pointer (some ⟨q,0,none⟩),v1',v2',.map (some m),.int .i64 T.fresh,.int .i64 16384] 130 (0,0)):=by
  subst C;unfold World.setCell;rw [iN,if_pos rfl,iN,if_pos rfl,J];rfl
 have I:y.heap.size=W.heap.size:=by subst C;simp [World.setCell]
 have af:m≠p:=fun e=>absurd h.blk (by rw [<-e];exact h.ids.noCells)
 have ag:v1.ownBlock≠some m:=fun e=>by obtain ⟨cs,f,e⟩:=h.nodes.ty m e;exact h.ids.noCells e
 have ah:v2.ownBlock≠some m:=fun e=>by obtain ⟨cs,f,e⟩:=h.nums.ty m e;exact h.ids.noCells e
 have K:∀k,k<w.heap.size->¬gR p w k->y.heap[k]? = w.heap[k]?:=fun k j D=>
  (G k fun e=>D (h.own.2 (.inl e))).trans (M k j (fun e=>D (h.own.2 (.inr (.inl e)))) (fun e=>D (h.own.2 (.inr (.inr (.inl e))))))
 obtain ⟨aa,E⟩:=h.srtX;have V:∀k,gR p y k->gR p w k\/w.heap.size<=k:=fun k e=>by
  rcases (aWo rfl Z N.noMap O.noMap).1 e with e | e | e | e
  ·exact .inl (h.own.2 (.inl e))
  ·rcases ad with r | r
   ·exact .inl (h.own.2 (.inr (.inl (by rw [<-r];exact e))))
   ·exact .inr (r k e)
  ·rcases ae with r | r
   ·exact .inl (h.own.2 (.inr (.inr (.inl (by rw [<-r];exact e)))))
   ·exact .inr (r k e)
  ·exact .inl (h.own.2 (.inr (.inr (.inr e))))
 have ap:=K q (E.ownB (.inl rfl)).2 (h.notSrt E (.inl rfl));have ab:dO B p { T with nodes:=l,nums:=U } y q v1' v2' m:=by
  refine⟨h.bp,Z,N.keepD (fun k j=>G k fun e=>?_) (fun k j=>G k fun e=>al (by rw [<-e];exact j)) (cD I.symm),O.keep (fun _ _ h=>h.elim) (fun k j=>G k fun e=>an (by rw [<-e];exact j)) (cD I.symm),h.ids.same ((G m af).trans (M m h.ids.lt ag ah)),h.bm,⟨aa,?_⟩,fun k L=>⟨by have:=(h.xlt k L).1;omega,fun e=>?_,fun e=>(h.xlt k L).2.2 ((eQ.same ap).1 e)⟩⟩
  ·subst e;exact dU.ne j.2 (by decide) (by decide) ⟨_,_,J⟩
  ·exact E.keep (fun k j=>K k (E.ownB j).2 (h.notSrt E j)) (fun k j=>K k j.lt (h.notDat j.dat.2)) (by rw [I];exact Y)
  ·rcases V k e with e | e
   ·exact(h.xlt k L).2.1 e
   ·have:=(h.xlt k L).1;omega
 refine⟨ab,by subst C;exact ai,by subst C;exact aq,by subst C;exact aj,by rw [I];exact Y,fun k j D=>⟨K k j D,fun e=>?_⟩⟩;rcases V k e with e | e
 ·exact D e
 ·omega
theorem dO.setIds (h:dO B p T w q v1 v2 m) (O:w.mapTurned W m) {n:Nat} {ids:ByteArray->Option Int} (U:qQ prog 9 m n (mV ids) W):dO B p { T with ids:=ids,cnt:=n } W q v1 v2 m/\dA p w W:=by
 have l:=O.grown;have r:∀k,∀cs t f,w.heap[k]? = some (Obj.cells cs t f)->W.heap[k]? = w.heap[k]?:=fun k cs t f I=>l.block k (bH I).1 fun e=>by injection e with e;subst e;exact h.ids.noCells I
 obtain ⟨K,C⟩:=h.srtX;have hd:∀k,dU w k->W.heap[k]? = w.heap[k]?:=fun k j=>by obtain ⟨cs,f,j | j⟩:=j <;> exact r k _ _ _ j
 have D:∀k,eQ w q k->W.heap[k]? = w.heap[k]?:=fun k j=>by
  obtain ⟨u1,u2,u3,G,L,M,N⟩:=C.blk;rcases (qB G).1 j with rfl | j | j | j
  ·exact r _ _ _ _ G
  ·obtain ⟨cs,f,e⟩:=L.ty k j;exact r _ _ _ _ e
  ·obtain ⟨cs,f,e⟩:=M.ty k j;exact r _ _ _ _ e
  ·obtain ⟨cs,f,e⟩:=N.ty k j;exact r _ _ _ _ e
 have E:dO B p { T with ids:=ids,cnt:=n } W q v1 v2 m:=by
  refine⟨h.bp,(r p _ _ _ h.blk).trans h.blk,h.nodes.keepD (fun k j=>hd k j.2) (fun k j=>?_) l.size,h.nums.keep (fun _ _ h=>h.elim) (fun k j=>?_) l.size,U,h.bm,⟨K,C.keep D (fun k j=>hd k j.dat.2) l.size⟩,fun k y=>⟨bG (h.xlt k y).1 l.size,fun e=>(h.xlt k y).2.1 ((gR.same (r p _ _ _ h.blk)).1 e),fun e=>(h.xlt k y).2.2 ((eQ.same (D q (.inl rfl))).1 e)⟩⟩
  ·obtain ⟨cs,f,e⟩:=h.nodes.ty k j;exact r _ _ _ _ e
  ·obtain ⟨cs,f,e⟩:=h.nums.ty k j;exact r _ _ _ _ e
 refine⟨E,l.os,l.tape,l.output,l.size,fun k j J=>⟨l.block k j fun e=>J (h.own.2 (.inr (.inr (.inr (by injection e))))),fun e=>J (h.own.2 (E.own.1 e))⟩⟩
theorem dO.setFresh (h:dO B p T w q v1 v2 m) (n:Int):dO B p { T with fresh:=n } (w.setCell ⟨p,4,none⟩ (.int .i64 n)) q v1 v2 m/\dA p w (w.setCell ⟨p,4,none⟩ (.int .i64 n)):=by
 have l:∀k,k≠p->(w.setCell ⟨p,4,none⟩ (.int .i64 n)).heap[k]? = w.heap[k]?:=fun k j=>dZ _ _ _ _ (fun e=>j e)
 have I:(w.setCell ⟨p,4,none⟩ (.int .i64 n)).heap[p]? = some (.cells #[.pointer (some ⟨q,0,none⟩),v1,v2,.map (some m),.int .i64 n,.int .i64 16384] 130 (0,0)):=by
  unfold World.setCell;rw [iN,if_pos rfl,h.blk];rfl
 have y:(w.setCell ⟨p,4,none⟩ (.int .i64 n)).heap.size=w.heap.size:=by simp [World.setCell]
 have K:m≠p:=fun e=>absurd h.blk (by rw [<-e];exact h.ids.noCells)
 obtain ⟨J,C⟩:=h.srtX;have r:gR p w p:=h.own.2 (.inl rfl);have E:dO B p { T with fresh:=n } (w.setCell ⟨p,4,none⟩ (.int .i64 n)) q v1 v2 m:=by
  refine⟨h.bp,I,h.nodes.keepD (fun k j=>l k fun e=>?_) (fun k j=>l k fun e=>?_) (cD y.symm),h.nums.keep (fun _ _ h=>h.elim) (fun k j=>l k fun e=>?_) (cD y.symm),h.ids.same (l m K),h.bm,⟨J,C.keep (fun k j=>l k fun e=>?_) (fun k j=>l k fun e=>?_) (cD y.symm)⟩,fun k D=>⟨by have:=(h.xlt k D).1;omega,fun e=>(h.xlt k D).2.1 (h.own.2 ((aWo rfl I h.nodes.noMap h.nums.noMap).1 e)),fun e=>(h.xlt k D).2.2 ((eQ.same (l q fun e=>h.notSrt C (.inl rfl) (by rw [e];exact r))).1 e)⟩⟩
  ·subst e;exact h.notDat j.2 r
  ·subst e;exact cO (by decide) (h.nodes.ty _ j) ⟨_,_,h.blk⟩
  ·subst e;exact cO (by decide) (h.nums.ty _ j) ⟨_,_,h.blk⟩
  ·subst e;exact h.notSrt C j r
  ·subst e;exact h.notDat j.dat.2 r
 refine⟨E,rfl,rfl,rfl,cD y.symm,fun k j G=>⟨l k fun e=>G (by rw [e];exact r),fun e=>G (h.own.2 (E.own.1 e))⟩⟩
end
theorem aIy:(Tryz.prog.info? 216).map (·.size)=some 2:=by kernel_rfl
theorem aQ5:liesAt prog Tryz.prog.depth 216 (2 / Tryz.prog.cellsOf 216) 0 216 1=true:=by kernel_rfl
theorem aUo:(Tryz.prog.info? 5).map (fun i=>(i.zero,i.size,i.bytes))=some (some (.int .u8 0),1,1):=by kernel_rfl
abbrev IsB (B b:Nat) (bs:List Value) (w:World):Prop:=Lib.IsBuilder 216 5 B b bs w
abbrev BAt (B b:Nat) (p:Value) (bs:List Value) (w:World):Prop:=Lib.BuilderAt 216 5 B b p bs w
theorem aDd (b:Nat) (w:World) (l:w.cell? ⟨b,0,none⟩=some (.pointer (some ⟨b,0,none⟩))) :
  Calls prog 206 #[.pointer (some ⟨b,0,none⟩)] w fun e w'=>e = .returned (.tuple #[])/\w'=w:=by
 obtain ⟨j,h,_⟩:=aCe.1 aIy;go_enter func206,ntmps206
 go_wp2;rw [Lib.run_neq_ptr_same w _ underlying213 h];go_wp2;go_end0;exact⟨rfl,rfl⟩
theorem aB4 (b:Nat) (w:World) (y:w.cell? ⟨b,0,none⟩=some (.pointer none)) (l:w.shape? b=some (216,2)) (C:w.frozen? ⟨b,0,none⟩=false) :
  Calls prog 206 #[.pointer (some ⟨b,0,none⟩)] w fun e w'=>e = .returned (.tuple #[])/\w'=w.setCell ⟨b,0,none⟩ (.pointer (some ⟨b,0,none⟩)):=by
 obtain ⟨j,h,r⟩:=aCe.1 aIy;go_enter func206,ntmps206
 go_wp2;rw [Lib.run_to_unsafe w ⟨b,0,none⟩ underlying213 underlying269 h (by rw [r];decide) l (Nat.zero_lt_succ 1)];simp only [Result.andThen];rw [aG5];go_wp2;rw [run_callFunc_extern func240 (by kernel_rfl) (by kernel_rfl) (by kernel_rfl) (e:=Extern.AbiNoEscape.same) (by kernel_rfl)];rw [Lib.run_noEscape];simp only [Result.andThen];rw [aG5];go_wp2;rw [Lib.run_from_unsafe w ⟨b,0,none⟩ underlying269 underlying213 h l aQ5];simp only [Result.andThen];rw [aG5];go_wp2;go_end0;exact⟨rfl,rfl⟩
structure lF (w:World):Prop where
 env:Env w
 pow:Lib.TabIs prog w "internal/strconv.uint64pow10" .u64 Lib.pow10Tab
 prt:Lib.PrintTabsAt 9 10 11 12 Lib.goPrintTabs w
 utf:Lib.Utf8Tabs 7 8 w
theorem aIz:Tryz.prog.globalNamed "internal/strconv.uint64pow10" = some 2:=by kernel_rfl
theorem TabSlice.all {g:Nat} {k:IntKind} {t:List Nat} {w w':World} (h:Lib.TabSlice g k t w) (l:Below w.heap.size w w'):Lib.TabSlice g k t w':=by
 obtain ⟨R,o,c,r,y⟩:=h;exact⟨R,o,c,aB l r,fun j C=>aB l (y j C)⟩
theorem lF.all {w w':World} (h:lF w) (j:Below w.heap.size w w'):lF w':=by
 refine⟨h.env.all j,?_,?_,?_⟩
 ·have l:=h.pow;unfold Lib.TabIs World.var? at *;rw [aIz] at *;simp only [aG1] at *;have J:2<w.heap.size:=by
   rcases nZ 2 w.heap.size with r | r
   ·exact r
   ·rw [aGn r] at l;cases l
  rw [j.block _ J];exact l
 ·obtain ⟨y,l,D,E,G⟩:=h.prt;exact⟨TabSlice.all y j,TabSlice.all l j,TabSlice.all D j,TabSlice.all E j,G⟩
 ·obtain ⟨y,l⟩:=h.utf;exact⟨fun c I=>aB j (y c I),fun i C=>⟨aB j (l i C).1,aB j (l i C).2⟩⟩
def xL (s:ByteArray):List UInt8:=(strOfNums (Lib.quoteZ Lib.goPrintTabs s)).data.toList
def kK (l:List Int):List UInt8:=l.flatMap fun a=>32 :: Lib.itoa a
def gG (l:List Int):List UInt8:=l.flatMap fun a=>Lib.itoa a ++ [44]
def aDe (n:aZ):List UInt8:=Lib.itoa n.op++32 :: (Lib.itoa n.sort++32 :: xL n.name)
def aO8 (n:aZ):List UInt8:=if n.op=11 then 32 :: (Lib.formatBool n.val.neg++47 :: (gG n.val.num++47 :: gG n.val.den)) else []
def aHf (n:aZ):List UInt8:=aDe n++(kK n.args++aO8 n)
def kT (n:aZ):ByteArray:=⟨(aHf n).toArray⟩
def eA:cJ:=⟨false,[],[]⟩
def aQ6:aZ:=⟨0,ByteArray.empty,eA,[],0⟩
def nodeAt (T:aC) (i:Int):aZ:=T.nodes.getD i.toNat aQ6
def numAt (T:aC) (i:Int):Bool × Bool:=T.nums.getD i.toNat (false,false)
def dH (T:aC) (i:Int):Bool:=decide (0<=i) && decide (i<(T.nodes.length:Int))
def mE (r:cJ):Bool:=!r.neg && (decide (r.num.length=0) && decide (r.den.length=0))
def dB (T:aC) (l:List Int):Bool:=l.all fun a=>(numAt T a).1
def dJ (T:aC) (n:aZ):Bool × Bool:=
 if n.op=11 then(true,decide (n.val.num.length=0))
 else if n.op=14\/n.op=16 then
  if dB T n.args then(if n.op=16\/n.args.length=1 then numAt T (nth n.args 0) else(false,false)) else(false,false)
 else(false,false)
def eM (T:aC) (ids:List Int) (s:Int):Bool:=!(ids.any fun i=>!((nodeAt T i).sort == s))
def jV (T:aC) (ids:List Int):Bool:=decide (2<=ids.length) && eM T ids (nodeAt T (nth ids 0)).sort
def lG (T:aC) (ids:List Int):Nat:=(ids.filter fun i=>!(numAt T i).1).length
def lH (T:aC) (ids:List Int):Bool:=decide (lG T ids<=1)
def jG (T:aC) (i:Int):Bool:=!(numAt T i).1 || (numAt T i).2
def fD (T:aC) (ids:List Int):Bool:=!((ids.drop 1).any (jG T))
def jW (op:Int):Int:=if op=14 then 1 else 2
def bP (T:aC) (op:Int) (args:List Int):Bool:=
 if (args.length:Int)<jW op then false
 else if eM T args 1 then(if op=15 then lH T args else if op=16 then fD T args else true) else false
def dN (T:aC):List Int->List Int->Bool
 | a :: l,s :: ss=>(nodeAt T a).sort == s && dN T l ss
 | _,_=>true
def iA (T:aC) (name:ByteArray) (args:List Int):Int × Bool:=
 if (jA T.S name).isSome/\(fM T.S name).args.length=args.length then
  (if dN T args (fM T.S name).args then((fM T.S name).res,true) else(0,false))
 else(0,false)
def xM (T:aC) (args:List Int):Int × Bool:=
 if args.length=3/\(nodeAt T (nth args 0)).sort=0/\jV T (args.drop 1)=true then((nodeAt T (nth args 1)).sort,true) else(0,false)
def aD (T:aC) (op:Int) (name:ByteArray) (args:List Int):Int × Bool:=
 if op=1\/op=2 then(0,decide (args.length=0))
 else if op=11 then(1,decide (args.length=0))
 else if op=3 then(0,decide (args.length=1) && eM T args 0)
 else if op=4\/op=5\/op=6\/op=7 then(0,decide (2<=args.length) && eM T args 0)
 else if op=8\/op=9 then(0,jV T args)
 else if op=10 then xM T args
 else if op=12 then iA T name args
 else if op=17\/op=18\/op=19\/op=20 then(0,bP T op args)
 else(1,bP T op args)
def eW (T:aC) (n:aZ):(Int × Int) × aC:=
 match T.ids (kT n) with
 | some i=>((i,0),T)
 | none=>if 16384<=T.nodes.length then((0,4),T) else(((T.nodes.length:Int),0),{ T with nodes:=T.nodes ++ [n],nums:=T.nums ++ [dJ T n],ids:=fun k=>if k=kT n then some (T.nodes.length:Int) else T.ids k,cnt:=T.cnt+1 })
def iB (l:List Int):Bool:=decide (l.length<=64) && (decide (l.length=0) || !(nth l (l.length - 1) == 0))
abbrev aK:Nat:=18446744073709551616
def aJ:List Int->Nat
 | []=>0
 | x :: l=>x.toNat+aK * aJ l
def iR (r:cJ):Bool:=iB r.num && (iB r.den && (!decide (r.den.length=0) && (!(r.neg && decide (r.num.length=0)) && (Nat.gcd (aJ r.num) (aJ r.den) == 1))))
def fR (op:Int) (name:ByteArray) (val:cJ):Bool:=(!(op == 12) && !(name.size == 0)) || (!(op == 11) && !mE val) || (op == 11 && !iR val)
def eN (op:Int) (args:List Int):Bool:=decide (op<1) || decide (20<op) || decide (64<args.length)
def bQ (T:aC) (op:Int) (name:ByteArray) (val:cJ) (args:List Int):(Int × Int) × aC:=
 if eN op args then((0,1),T)
 else if fR op name val then((0,1),T)
 else if args.any (fun i=>!dH T i) then((0,1),T)
 else if (aD T op name args).2 then eW T ⟨op,name,val,args,(aD T op name args).1⟩ else((0,3),T)
def iS (k:Int):ByteArray:=⟨(124 :: Lib.itoa k).toArray⟩
def cY (T:aC) (s:Int):aZ:=⟨12,iS T.fresh,eA,[],s⟩
def dC (T:aC) (s:Int):(Int × Int) × aC:=
 if xK T.S.sorts.length s then
  (if (eW T (cY T s)).1.2=0 then((eW T (cY T s)).1,{ (eW T (cY T s)).2 with fresh:=T.fresh+1 }) else eW T (cY T s))
 else((0,1),T)
structure SmT (T:aC):Prop where
 nn:T.nums.length=T.nodes.length
 cn:T.cnt<=T.nodes.length
 le:T.nodes.length<=16384
 fr:0<=T.fresh/\T.fresh<=1099511627776
 s:wV T.S
 ids:∀k i,T.ids k=some i->0<=i/\i<(T.nodes.length:Int)
def InT (T:aC) (ids:List Int):Prop:=∀i∈ids,0<=i/\i<(T.nodes.length:Int)
theorem cX {T:aC} {i:Int}:dH T i=true↔0<=i/\i<(T.nodes.length:Int):=by unfold dH;simp
theorem tO {T:aC} {ids:List Int} (h:ids.any (fun i=>!dH T i)=false):InT T ids:=fun i j=>by
 have:=oT.1 h i j;simp at this;exact cX.1 this
section
variable {B p : Nat} {T : aC} {w : World}
theorem dG.look (h:dG B p T w):∃q j c1 l c2 m,dO B p T w q (.slice j T.nodes.length c1) (.slice l T.nums.length c2) m:=by
 obtain ⟨q,v1,v2,m,h⟩:=h;obtain ⟨j,c1,rfl,_⟩:=h.nodes.slice;obtain ⟨l,c2,rfl,_⟩:=h.nums.slice;exact⟨q,j,c1,l,c2,m,h⟩
theorem bT.nodeAt {S:Nat->Prop} {a:Option Addr} {n k:Nat} {xs:List aZ} {x:aZ} (h:bT uO S w a n xs) (G:xs[k]? = some x) :
  ∃b o j r l d g e,a=some ⟨b,o,none⟩/\eD S w x j r l d g e/\∀i u,(wW x j r l d g e)[i]? = some u->w.cell? ⟨b,o+k * 7+i,none⟩=some u:=by
 obtain ⟨b,o,cs,C,_,E,y⟩:=h.at G;obtain ⟨j,r,l,d,g,e,rfl,D⟩:=vT.1 E;rw [aWm] at y;exact⟨b,o,j,r,l,d,g,e,C,D,y⟩
theorem bT.numAt {S:Nat->Prop} {a:Option Addr} {n k:Nat} {xs:List (Bool × Bool)} {x:Bool × Bool} (h:bT aE3 S w a n xs) (y:xs[k]? = some x) :
  ∃b o,a=some ⟨b,o,none⟩/\w.cell? ⟨b,o+k * 2,none⟩=some (.bool x.1)/\w.cell? ⟨b,o+k * 2+1,none⟩=some (.bool x.2):=by
 obtain ⟨b,o,cs,l,_,r,j⟩:=h.at y;obtain rfl:=aC1.1 r;rw [aWn] at j;exact⟨b,o,l,j 0 _ rfl,j 1 _ rfl⟩
theorem cR {k:Nat} (h:k<T.nodes.length):T.nodes[k]? = some (nodeAt T k):=by
 unfold nodeAt;rw [pX,iW,cK h];rfl
theorem aFh {k:Nat} (h:k<T.nums.length):T.nums[k]? = some (numAt T k):=by
 unfold numAt;rw [pX,iW,cK h];rfl
theorem dO.sortCell {q:Nat} {j:Option Addr} {n c1:Nat} {v2:Value} {m:Nat} (h:dO B p T w q (.slice j n c1) v2 m) {k:Nat} (y:k<T.nodes.length):∃b o,j=some ⟨b,o,none⟩/\w.cell? ⟨b,o+k * 7+6,none⟩=some (.int .i64 (nodeAt T k).sort)/\eI (nodeAt T k).sort:=by
 obtain ⟨b,o,_,_,_,_,_,_,l,C,r⟩:=(h.nodes.read (S':=fun _=>True) (fun _ _ _=>trivial) (fun _ _=>trivial)).nodeAt (cR y);exact⟨b,o,l,r 6 _ rfl,C.sort⟩
theorem dO.numCell {q:Nat} {j:Option Addr} {n c2:Nat} {v1:Value} {m:Nat} (h:dO B p T w q v1 (.slice j n c2) m) {k:Nat} (l:k<T.nums.length):∃b o,j=some ⟨b,o,none⟩/\w.cell? ⟨b,o+k * 2,none⟩=some (.bool (numAt T k).1)/\w.cell? ⟨b,o+k * 2+1,none⟩=some (.bool (numAt T k).2):=
 (h.nums.read (S':=fun _=>True) (fun _ _ _=>trivial) (fun _ _=>trivial)).numAt (aFh l)
end
theorem aOd (B p:Nat) (T:aC) (w:World) (h:dG B p T w):Calls prog 46 #[.pointer (some ⟨p,0,none⟩)] w fun e w'=>e = .returned (.int .i64 T.nodes.length)/\w=w':=by
 obtain ⟨q,l,c1,r,c2,m,j⟩:=h.look;have y:w.cell? ⟨p,1,none⟩=some (.slice l T.nodes.length c1):=E j.blk 1;clear j h;go_enter func46,ntmps46
 go_wp2;go_ret;exact⟨rfl,rfl⟩
theorem aC2 (B p:Nat) (T:aC) (i:Int) (w:World) (h:dG B p T w):Calls prog 69 #[.pointer (some ⟨p,0,none⟩),.int .i64 i] w fun e w'=>e = .returned (.bool (dH T i))/\w=w':=by
 have r:=Z (aOd B p T w h);have hd:=@Z (dH T i=(decide (0<=i) && decide (i<(T.nodes.length:Int)))) rfl;clear h;by_cases j:0<=i
 ·have l:=@Z (dH T i=decide (i<(T.nodes.length:Int))) (by rw [hd.o];simp [j]);go_enter func69,ntmps69
  go_wp2_with fail
  refine r.o.mono ?_;rintro e w' ⟨rfl,rfl⟩;go_wp2;go_ret;exact⟨aI l.o.symm,rfl⟩
 ·have l:=@Z (false=dH T i) (by rw [hd.o];simp [j]);have y:decide (0<=i)=false:=by simpa using j
  go_enter func69,ntmps69
  go_wp2;go_ret;exact⟨aI l.o,rfl⟩
theorem aAu (B p:Nat) (T:aC) (i:Int) (x:Nat) (w:World) (h:dG B p T w) (l:w.cell? ⟨x,0,none⟩=some (.pointer (some ⟨p,0,none⟩))) :
  Calls prog 86 #[.int .i64 i,.pointer (some ⟨x,0,none⟩)] w fun e w'=>e = .returned (.bool (!dH T i))/\Below w.heap.size w w':=by
 have j:=Z (aC2 B p T i w h);clear h;go_enter func86,ntmps86
 go_wp2_with fail
 refine j.o.mono ?_;rintro e w' ⟨rfl,rfl⟩;go_wp2;go_ret;exact⟨rfl,aO _ _⟩
theorem aQ7 (B p:Nat) (T:aC) (s:Int) (k x y:Nat) (w:World) (h:dG B p T w) (r:k<T.nodes.length) (G:w.cell? ⟨x,0,none⟩=some (.pointer (some ⟨p,0,none⟩))) (hy:w.cell? ⟨y,0,none⟩=some (.int .i64 s)) :
  Calls prog 172 #[.int .i64 k,.pointer (some ⟨x,0,none⟩),.pointer (some ⟨y,0,none⟩)] w fun e w'=>e = .returned (.bool (!((nodeAt T k).sort == s)))/\Below w.heap.size w w':=by
 obtain ⟨q,l,c1,C,c2,m,j⟩:=h.look;have I:w.cell? ⟨p,1,none⟩=some (.slice l T.nodes.length c1):=E j.blk 1;obtain ⟨b,o,rfl,J,K⟩:=j.sortCell r;have D:(k:Int)<T.nodes.length:=by omega
 clear j h;generalize (nodeAt T k).sort=z at *;go_enter func172,ntmps172
 go_wp2
 go_quiet (fail)
 go_wp2;go_ret;exact⟨rfl,(aO _ _).drewN _⟩
theorem aO9 (B p:Nat) (T:aC) (k x:Nat) (w:World) (h:dG B p T w) (D:k<T.nums.length) (I:w.cell? ⟨x,0,none⟩=some (.pointer (some ⟨p,0,none⟩))) :
  Calls prog 205 #[.int .i64 k,.pointer (some ⟨x,0,none⟩)] w fun e w'=>e = .returned (.bool (jG T k))/\Below w.heap.size w w':=by
 obtain ⟨q,G,c1,C,c2,m,l⟩:=h.look;have J:w.cell? ⟨p,2,none⟩=some (.slice C T.nums.length c2):=E l.blk 2;obtain ⟨b,o,rfl,y,K⟩:=l.numCell D;have hd:=@Z (jG T k=(!(numAt T k).1 || (numAt T k).2)) rfl;clear l h;cases j:(numAt T k).1
 case false=>
  have r:=@Z (true=jG T k) (by rw [hd.o,j];rfl);rw [j] at y;clear j;go_enter func205,ntmps205
  go_wp2;go_ret;exact⟨aI r.o,aO _ _⟩
 case true=>
  have r:=@Z ((numAt T k).2=jG T k) (by rw [hd.o,j];rfl);rw [j] at y;clear j;generalize (numAt T k).2=z at *;go_enter func205,ntmps205
  go_wp2;go_ret;exact⟨aI r.o,aO _ _⟩
theorem aQ8 (P:Int->Bool) (a:Option Addr) (n c V:Nat) (xs:List Int) (w:World) (h:jQ w a n xs) (ag:n<1099511627776)
  (M:∀y,Below w.heap.size w y->∀x∈xs,Calls prog 86 #[.int .i64 x,.pointer (some ⟨V,0,none⟩)] y fun e w'=>e = .returned (.bool (P x))/\Below y.heap.size y w') :
  Calls prog 124 #[.slice a n c,.func (.func 86) #[] #[.pointer (some ⟨V,0,none⟩)]] w fun e w'=>e = .returned (.int .i64 (uM P xs 0))/\Below w.heap.size w w':=by
 have Y:=Z h;have U:=Z h.len;have aa:=Z M;clear h M;go_enter func124,ntmps124
 go_wp2
 go_loopw [4,5,8] (fun _ _ i wr=>∃k:Nat,k<=n/\i = .int .i64 k/\Hid (∀j x,j<k->xs[j]? = some x->P x=false)/\Hid (Below w.heap.size w wr)) (fun _ _ i _=>n - (intOf i).toNat)
 case atStart=>exact⟨0,aN,rfl,fun j f E=>absurd E (oX _),aO _ _⟩
 case round=>
  obtain ⟨k,af,rfl,K,C⟩:=hrel;by_cases O:k<n
  ·have J:k<xs.length:=by rw [U.o];exact O
   have l:=cK J;obtain ⟨b,o,rfl,ae⟩:=(Y.o.below C.o aA).at k O;have G:=Z (aa.o wr C.o xs[k] (qS J));rw [cE J] at ae;have N:=Z l;clear l;cases r:P xs[k]
   case true=>
    have L:=Z (rT (p:=P) (fun j f E l=>K.o j f E l) N.o r);rw [r] at G;generalize xs[k]=f at *;clear r
    go_wp2_with fail
    refine G.o.mono ?_;rintro e y ⟨rfl,D⟩;have I:=Z (aG C D);clear D;go_wp2;go_ret;exact⟨mI L.o.symm,I.o⟩
   case false=>
    have ad:=@Z (∀j f,j<k+1->xs[j]? = some f->P f=false) (fun j f E l=>by
     by_cases ab:j<k
     ·exact K.o j f ab l
     ·obtain rfl:j=k:=by omega
      rw [N.o] at l;cases l;exact r)
    rw [r] at G;generalize xs[k]=f at *;clear r
    go_wp2_with fail
    refine G.o.mono ?_;rintro e y ⟨rfl,D⟩;have I:=Z (aG C D);clear D;go_wp2
    go_roundw
    case rel=>exact⟨k+1,by omega,by go_num,ad.o,I.o⟩
    case measure=>simp [intOf];omega
  ·have L:=Z (rU (p:=P) (xs:=xs) (fun j f E l=>K.o j f (by have:=U.o;omega) l));go_wp2;go_ret;exact⟨mI L.o.symm,C.o⟩
theorem aDf (P:Int->Bool) (a:Option Addr) (n c G:Nat) (xs:List Int) (w:World) (h:jQ w a n xs) (K:n<1099511627776)
  (I:∀r,Below w.heap.size w r->∀x∈xs,Calls prog 86 #[.int .i64 x,.pointer (some ⟨G,0,none⟩)] r fun e w'=>e = .returned (.bool (P x))/\Below r.heap.size r w') :
  Calls prog 80 #[.slice a n c,.func (.func 86) #[] #[.pointer (some ⟨G,0,none⟩)]] w fun e w'=>e = .returned (.bool (xs.any P))/\Below w.heap.size w w':=by
 have C:=Z (aQ8 P a n c G xs w h K I);clear h I;have l:=nQ (p:=P) xs 0;cases j:xs.find? P with
 |
  none=>
  rw [j] at l;dsimp only at l;have E:=@Z (xs.any P=false) (by rw [oT];rw [yR] at j;exact j);rw [l] at C;clear l j;go_enter func80,ntmps80
  go_wp2_with fail
  refine C.o.mono ?_;rintro e r ⟨rfl,y⟩;have D:=Z y;clear y;go_wp2;go_ret;exact⟨aI E.o.symm,D.o⟩
 |
  some f=>
  rw [j] at l;dsimp only at l;obtain ⟨k,J,L⟩:=l;have E:=@Z (xs.any P=true) (by rw [oW];exact⟨f,mK j,by have:=tI j;exact this⟩);rw [J] at C;clear J j;go_enter func80,ntmps80
  go_wp2_with fail
  refine C.o.mono ?_;rintro e r ⟨rfl,y⟩;have D:=Z y;clear y;go_wp2;go_ret;exact⟨aI E.o.symm,D.o⟩
theorem aQ9 (P:Int->Bool) (a:Option Addr) (n c V Y:Nat) (xs:List Int) (w:World) (h:jQ w a n xs) (ah:n<1099511627776)
  (M:∀y,Below w.heap.size w y->∀x∈xs,Calls prog 172 #[.int .i64 x,.pointer (some ⟨V,0,none⟩),.pointer (some ⟨Y,0,none⟩)] y fun e w'=>e = .returned (.bool (P x))/\Below y.heap.size y w') :
  Calls prog 124 #[.slice a n c,.func (.func 172) #[] #[.pointer (some ⟨V,0,none⟩),.pointer (some ⟨Y,0,none⟩)]] w fun e w'=>e = .returned (.int .i64 (uM P xs 0))/\Below w.heap.size w w':=by
 have aa:=Z h;have U:=Z h.len;have ab:=Z M;clear h M;go_enter func124,ntmps124
 go_wp2
 go_loopw [4,5,8] (fun _ _ i wr=>∃k:Nat,k<=n/\i = .int .i64 k/\Hid (∀j x,j<k->xs[j]? = some x->P x=false)/\Hid (Below w.heap.size w wr)) (fun _ _ i _=>n - (intOf i).toNat)
 case atStart=>exact⟨0,aN,rfl,fun j f E=>absurd E (oX _),aO _ _⟩
 case round=>
  obtain ⟨k,ag,rfl,K,C⟩:=hrel;by_cases O:k<n
  ·have J:k<xs.length:=by rw [U.o];exact O
   have l:=cK J;obtain ⟨b,o,rfl,af⟩:=(aa.o.below C.o aA).at k O;have G:=Z (ab.o wr C.o xs[k] (qS J));rw [cE J] at af;have N:=Z l;clear l;cases r:P xs[k]
   case true=>
    have L:=Z (rT (p:=P) (fun j f E l=>K.o j f E l) N.o r);rw [r] at G;generalize xs[k]=f at *;clear r
    go_wp2_with fail
    refine G.o.mono ?_;rintro e y ⟨rfl,D⟩;have I:=Z (aG C D);clear D;go_wp2;go_ret;exact⟨mI L.o.symm,I.o⟩
   case false=>
    have ae:=@Z (∀j f,j<k+1->xs[j]? = some f->P f=false) (fun j f E l=>by
     by_cases ad:j<k
     ·exact K.o j f ad l
     ·obtain rfl:j=k:=by omega
      rw [N.o] at l;cases l;exact r)
    rw [r] at G;generalize xs[k]=f at *;clear r
    go_wp2_with fail
    refine G.o.mono ?_;rintro e y ⟨rfl,D⟩;have I:=Z (aG C D);clear D;go_wp2
    go_roundw
    case rel=>exact⟨k+1,by omega,by go_num,ae.o,I.o⟩
    case measure=>simp [intOf];omega
  ·have L:=Z (rU (p:=P) (xs:=xs) (fun j f E l=>K.o j f (by have:=U.o;omega) l));go_wp2;go_ret;exact⟨mI L.o.symm,C.o⟩
theorem aRa (P:Int->Bool) (a:Option Addr) (n c G I:Nat) (xs:List Int) (w:World) (h:jQ w a n xs) (L:n<1099511627776)
  (J:∀r,Below w.heap.size w r->∀x∈xs,Calls prog 172 #[.int .i64 x,.pointer (some ⟨G,0,none⟩),.pointer (some ⟨I,0,none⟩)] r fun e w'=>e = .returned (.bool (P x))/\Below r.heap.size r w') :
  Calls prog 80 #[.slice a n c,.func (.func 172) #[] #[.pointer (some ⟨G,0,none⟩),.pointer (some ⟨I,0,none⟩)]] w fun e w'=>e = .returned (.bool (xs.any P))/\Below w.heap.size w w':=by
 have C:=Z (aQ9 P a n c G I xs w h L J);clear h J;have l:=nQ (p:=P) xs 0;cases j:xs.find? P with
 |
  none=>
  rw [j] at l;dsimp only at l;have E:=@Z (xs.any P=false) (by rw [oT];rw [yR] at j;exact j);rw [l] at C;clear l j;go_enter func80,ntmps80
  go_wp2_with fail
  refine C.o.mono ?_;rintro e r ⟨rfl,y⟩;have D:=Z y;clear y;go_wp2;go_ret;exact⟨aI E.o.symm,D.o⟩
 |
  some f=>
  rw [j] at l;dsimp only at l;obtain ⟨k,K,M⟩:=l;have E:=@Z (xs.any P=true) (by rw [oW];exact⟨f,mK j,by have:=tI j;exact this⟩);rw [K] at C;clear K j;go_enter func80,ntmps80
  go_wp2_with fail
  refine C.o.mono ?_;rintro e r ⟨rfl,y⟩;have D:=Z y;clear y;go_wp2;go_ret;exact⟨aI E.o.symm,D.o⟩
theorem aRb (P:Int->Bool) (a:Option Addr) (n c V:Nat) (xs:List Int) (w:World) (h:jQ w a n xs) (ag:n<1099511627776)
  (M:∀y,Below w.heap.size w y->∀x∈xs,Calls prog 205 #[.int .i64 x,.pointer (some ⟨V,0,none⟩)] y fun e w'=>e = .returned (.bool (P x))/\Below y.heap.size y w') :
  Calls prog 124 #[.slice a n c,.func (.func 205) #[] #[.pointer (some ⟨V,0,none⟩)]] w fun e w'=>e = .returned (.int .i64 (uM P xs 0))/\Below w.heap.size w w':=by
 have Y:=Z h;have U:=Z h.len;have aa:=Z M;clear h M;go_enter func124,ntmps124
 go_wp2
 go_loopw [4,5,8] (fun _ _ i wr=>∃k:Nat,k<=n/\i = .int .i64 k/\Hid (∀j x,j<k->xs[j]? = some x->P x=false)/\Hid (Below w.heap.size w wr)) (fun _ _ i _=>n - (intOf i).toNat)
 case atStart=>exact⟨0,aN,rfl,fun j f E=>absurd E (oX _),aO _ _⟩
 case round=>
  obtain ⟨k,af,rfl,K,C⟩:=hrel;by_cases O:k<n
  ·have J:k<xs.length:=by rw [U.o];exact O
   have l:=cK J;obtain ⟨b,o,rfl,ae⟩:=(Y.o.below C.o aA).at k O;have G:=Z (aa.o wr C.o xs[k] (qS J));rw [cE J] at ae;have N:=Z l;clear l;cases r:P xs[k]
   case true=>
    have L:=Z (rT (p:=P) (fun j f E l=>K.o j f E l) N.o r);rw [r] at G;generalize xs[k]=f at *;clear r
    go_wp2_with fail
    refine G.o.mono ?_;rintro e y ⟨rfl,D⟩;have I:=Z (aG C D);clear D;go_wp2;go_ret;exact⟨mI L.o.symm,I.o⟩
   case false=>
    have ad:=@Z (∀j f,j<k+1->xs[j]? = some f->P f=false) (fun j f E l=>by
     by_cases ab:j<k
     ·exact K.o j f ab l
     ·obtain rfl:j=k:=by omega
      rw [N.o] at l;cases l;exact r)
    rw [r] at G;generalize xs[k]=f at *;clear r
    go_wp2_with fail
    refine G.o.mono ?_;rintro e y ⟨rfl,D⟩;have I:=Z (aG C D);clear D;go_wp2
    go_roundw
    case rel=>exact⟨k+1,by omega,by go_num,ad.o,I.o⟩
    case measure=>simp [intOf];omega
  ·have L:=Z (rU (p:=P) (xs:=xs) (fun j f E l=>K.o j f (by have:=U.o;omega) l));go_wp2;go_ret;exact⟨mI L.o.symm,C.o⟩
theorem aRc (P:Int->Bool) (a:Option Addr) (n c G:Nat) (xs:List Int) (w:World) (h:jQ w a n xs) (K:n<1099511627776)
  (I:∀r,Below w.heap.size w r->∀x∈xs,Calls prog 205 #[.int .i64 x,.pointer (some ⟨G,0,none⟩)] r fun e w'=>e = .returned (.bool (P x))/\Below r.heap.size r w') :
  Calls prog 80 #[.slice a n c,.func (.func 205) #[] #[.pointer (some ⟨G,0,none⟩)]] w fun e w'=>e = .returned (.bool (xs.any P))/\Below w.heap.size w w':=by
 have C:=Z (aRb P a n c G xs w h K I);clear h I;have l:=nQ (p:=P) xs 0;cases j:xs.find? P with
 |
  none=>
  rw [j] at l;dsimp only at l;have E:=@Z (xs.any P=false) (by rw [oT];rw [yR] at j;exact j);rw [l] at C;clear l j;go_enter func80,ntmps80
  go_wp2_with fail
  refine C.o.mono ?_;rintro e r ⟨rfl,y⟩;have D:=Z y;clear y;go_wp2;go_ret;exact⟨aI E.o.symm,D.o⟩
 |
  some f=>
  rw [j] at l;dsimp only at l;obtain ⟨k,J,L⟩:=l;have E:=@Z (xs.any P=true) (by rw [oW];exact⟨f,mK j,by have:=tI j;exact this⟩);rw [J] at C;clear J j;go_enter func80,ntmps80
  go_wp2_with fail
  refine C.o.mono ?_;rintro e r ⟨rfl,y⟩;have D:=Z y;clear y;go_wp2;go_ret;exact⟨aI E.o.symm,D.o⟩
theorem rV:(Tryz.prog.info? 177).map (fun i=>(i.zero,i.size,i.bytes))=some (some (.int .u64 0),1,8):=by kernel_rfl
theorem aFi:(Tryz.prog.info? 38).map (fun i=>(i.zero,i.size,i.bytes))=some (some (.agg #[.int .i64 0,.string ByteArray.empty,.bool false,.slice none 0 0,.slice none 0 0,.slice none 0 0,.int .i64 0]),7,112):=by kernel_rfl
def aWq (xs:List Int):Prop:=∀x∈xs,okU x
theorem bT.src64 {S:Nat->Prop} {w:World} {a:Option Addr} {n:Nat} {xs:List Int} (h:bT cH.u64 S w a n xs):Src w 1 a n (xs.map (Value.int .u64)):=by
 refine⟨by rw [lB,h.1,jN],fun E=>?_⟩;obtain ⟨b,o,rfl,_,_,D⟩:=h.2 E;refine⟨_,rfl,fun j u l=>?_⟩;rw [mZ] at l;obtain ⟨x,G,rfl⟩:=aCe.1 l;obtain ⟨cs,r,y⟩:=D j x G;have C:=y 0 (.int .u64 x) (by rw [r.1];rfl);rw [lD]
 simpa [cH.u64] using C
theorem bT.us {S:Nat->Prop} {w:World} {a:Option Addr} {n:Nat} {xs:List Int} (h:bT cH.u64 S w a n xs):aWq xs:=fun x y=>by
 obtain ⟨j,r,rfl⟩:=gU y;obtain ⟨b,o,cs,_,_,l,_⟩:=h.at (cK r);exact l.2
theorem aXg (xs:List Int) (k:IntKind):(xs.map fun x=>[Value.int k x]).flatten=xs.map (Value.int k):=by
 induction xs with
 | nil=>rfl
 | cons x xs ih=>simp [ih]
theorem aW.toU {w:World} {base:Nat} {v:Value} {xs:List Int} (h:aW w base 177 1 v xs.length (xs.map (Value.int .u64))) (r:aWq xs):cA cH.u64 (fun _=>False) w base 177 v xs:=by
 refine⟨xs.map fun x=>[Value.int .u64 x],by rw [aXg];exact h,by simp,fun j x l=>?_⟩;exact⟨[.int .u64 x],by rw [mZ,l];rfl,rfl,r x (fP l)⟩
theorem eF {S:Nat->Prop} (a:Option Addr) (n c:Nat) (xs:List Int) (w:World) (l:bT cH.u64 S w a n xs) (af:n<17592186044416) :
  Calls prog 120 #[.slice a n c] w fun e w'=>∃r j,e = .returned (.slice r n j)/\cA cH.u64 (fun _=>False) w' w.heap.size 177 (.slice r n j) xs/\Below w.heap.size w w':=by
 have I:=Z l.1;have ad:=Z l.us;have G:=Z l.src64;obtain ⟨ag,L,Y,aa,ab⟩:=info_parts rV;have ah:∀(w:World) (a:Option Addr) (n c C j:Nat),(binOp .eql 34 (.slice a n c) (.slice none C j)).run prog w = .ok (.bool a.isNone) w:=fun w a n c C j=>aGq w _ _ a n c C j underlying34
 cases a with
 |
  none=>
  have D:n=0:=by
   rcases gD n with h | h
   ·exact h
   ·obtain ⟨b,o,J,_⟩:=l.2 h;cases J
  have V:xs = []:=jR (by rw [I.o,D]);subst D V;clear l G;go_enter func120,ntmps120
  go_wp2;go_ret;exact⟨none,0,rfl,cA.nil _ _ _ _ _,aO _ _⟩
 |
  some a=>
  clear l;go_enter func120,ntmps120
  go_wp2_with (at_builtin;refine cI (base:=w.heap.size) (v:=.slice (some ⟨w.heap.size,0,none⟩) 0 0) rfl _ _ rfl underlying34 L Y aa ab rfl (by decide) rfl rfl (aW.lit0 rfl aA) (G.o.keep (bJ)) ?c1 ?c2 ?c3 ?c4 ?_)
  case c1=>intro u U;obtain ⟨x,_,rfl⟩:=qA.1 U;rfl
  case c2=>unfold maxLen;omega
  case c3=>omega
  case c4=>simp
  intro v' ae y E N;have O:=Z (aW.toU (w:=ae) (base:=w.heap.size) (v:=v') (xs:=xs) (by rw [I.o];simpa using y) ad.o);obtain ⟨r,j,rfl,_⟩:=y.slice;have K:=Z (((aO w.heap.size w).alloc aA (.cells #[] 177)).grown E (by simp) (by intro k M;simp [Value.ownBlock] at M;omega));clear y E N;go_wp2;go_ret;exact⟨r,j,by simp,by simpa using O.o,K.o⟩
theorem qE (B p:Nat) (T:aC) (a:Option Addr) (n c:Nat) (xs:List Int) (s:Int) (w:World) (h:dG B p T w) (G:jQ w a n xs) (N:n<1099511627776) (D:InT T xs) :
  Calls prog 132 #[.pointer (some ⟨p,0,none⟩),.slice a n c,.int .i64 s] w fun e w'=>e = .returned (.bool (eM T xs s))/\Below w.heap.size w w':=by
 have hd:=@Z (eM T xs s = !(xs.any fun i=>!((nodeAt T i).sort == s))) rfl;have j:Below w.heap.size w ((w.alloc (.cells #[.pointer (some ⟨p,0,none⟩)] 26)).alloc (.cells #[.int .i64 s] 3)):=(bJ).alloc (by simp) _;have y:=fI w (.cells #[.pointer (some ⟨p,0,none⟩)] 26) (.cells #[.int .i64 s] 3);have C:=eV w (.cells #[.pointer (some ⟨p,0,none⟩)] 26) (.cells #[.int .i64 s] 3);have M:=Z (aRa (fun i=>!((nodeAt T i).sort == s)) a n c w.heap.size (w.heap.size+1) xs _ (G.below j aA) N (fun I l x O=>by
  obtain ⟨J,U⟩:=D x O;obtain ⟨k,rfl⟩:=fK J;exact aQ7 B p T s k w.heap.size (w.heap.size+1) I ((h.all j).all l) (by omega) (E ((l.block _ (by simp;omega)).trans y) 0) (E ((l.block _ (by simp)).trans C) 0)))
 have K:=Z j;clear h G D j y C;go_enter func132,ntmps132
 go_wp2_with fail
 refine M.o.mono ?_;rintro e I ⟨rfl,r⟩;have L:=Z (K.o.trans (r.mono (by simp;omega)));clear r;go_wp2;go_ret;exact⟨aI hd.o.symm,L.o⟩
theorem xN (B p:Nat) (T:aC) (a:Option Addr) (n c:Nat) (xs:List Int) (w:World) (h:dG B p T w) (l:jQ w a n xs) (ad:n<1099511627776) (r:InT T xs) :
  Calls prog 133 #[.pointer (some ⟨p,0,none⟩),.slice a n c] w fun e w'=>e = .returned (.bool (jV T xs))/\Below w.heap.size w w':=by
 have hd:=@Z (jV T xs=(decide (2<=xs.length) && eM T xs (nodeAt T (nth xs 0)).sort)) rfl;have G:=Z l.len;by_cases J:2<=n
 ·have y:=@Z (eM T xs (nodeAt T (nth xs 0)).sort=jV T xs) (by rw [hd.o,G.o];simp [J]);obtain ⟨b,o,rfl,D⟩:=l.at 0 (by omega);rw [cU] at D;obtain ⟨U,V⟩:=r (nth xs 0) (cB (by rw [G.o];omega));have aa:=Z (fun(I:World) (s:Int) (N:Below w.heap.size w I)=>qE B p T (some ⟨b,o,none⟩) n c xs s I (h.all N) (l.below N aA) ad r);obtain ⟨k,L⟩:=fK U;rw [L] at D V y;obtain ⟨q,O,c1,ag,c2,m,C⟩:=h.look;have ae:w.cell? ⟨p,1,none⟩=some (.slice O T.nodes.length c1):=E C.blk 1;obtain ⟨ah,al,rfl,af,_⟩:=C.sortCell (k:=k) (by omega);have Y:(2:Int)<=n:=by omega
  have ak:0<n:=by omega
  have aj:k<T.nodes.length:=by omega
  clear h l r C hd L;generalize (nodeAt T k).sort=z at *;go_enter func133,ntmps133
  go_wp2_with fail
  refine bF (S:=fun W=>Below w.heap.size w W) 16 (by kernel_rfl) (by kernel_rfl) (aF w) (fun _=>?_);refine aE 0 ?_;refine aE 1 ?_;refine aE 2 ?_;refine aE 3 ?_;refine aE 4 ?_;refine aE 5 ?_;refine aE 6 ?_;refine aE 7 ?_;refine aE 8 ?_;refine aE 9 (hy:=(by first | exact Or.inl ⟨by rfl,by(intro W j;have M:=aB j ae;go_simp <;> with_reducible rfl)⟩ | exact Or.inr ⟨by rfl,rfl⟩)) ?_;refine aE 10 ?_;refine aE 11 ?_;refine aE 12 (hy:=(by first | exact Or.inl ⟨by rfl,by(intro W j;have M:=aB j D;go_simp <;> with_reducible rfl)⟩ | exact Or.inr ⟨by rfl,rfl⟩)) ?_;refine aE 13 ?_;refine aE 14 ?_;refine aE 15 (hy:=(by first | exact Or.inl ⟨by rfl,by(intro W j;have M:=aB j af;go_simp <;> with_reducible rfl)⟩ | exact Or.inr ⟨by rfl,rfl⟩)) ?_;refine cF (by decide +kernel) ?_;simp only [dL,cW]
  go_wp2_with fail
  refine(aa.o _ z (by assumption)).mono ?_;rintro e I ⟨rfl,K⟩;have ab:=Z (K);clear K;go_wp2;go_ret;exact⟨aI y.o,(aF w).trans (ab.o.mono (aF w).size)⟩
 ·have y:=@Z (false=jV T xs) (by rw [hd.o,G.o];simp [J]);have Y:¬(2:Int)<=n:=by omega
  have ai:decide ((n:Int) ≥ 2)=false:=by simp;omega
  clear h l r hd;go_enter func133,ntmps133
  go_wp2_with fail
  go_quiet (fail)
  go_wp2;go_ret;exact⟨aI y.o,(aO _ _).drewN _⟩
def iJ (T:aC) (xs:List Int) (k:Nat):Nat:=lG T (xs.take k)
theorem aE4 {T:aC} {xs:List Int} {k:Nat} (h:k<xs.length):iJ T xs (k+1)=iJ T xs k+(if (numAt T (nth xs k)).1 then 0 else 1):=by
 unfold iJ lG;rw [jD h,List.filter_append,dM,cE h]
 congr 1
 rw [List.filter_cons];cases (numAt T xs[k]).1 <;> rfl
theorem aHg {T:aC} {xs:List Int}:iJ T xs xs.length=lG T xs:=by unfold iJ;rw [nA]
theorem aI0 {T:aC} {xs:List Int} {k:Nat}:iJ T xs k<=k:=by
 unfold iJ lG;exact aH (List.length_filter_le _ _) (by rw [eS];exact Nat.min_le_left _ _)
theorem aI1 (B p:Nat) (T:aC) (a:Option Addr) (n c:Nat) (xs:List Int) (w:World) (h:dG B p T w) (D:jQ w a n xs) (ak:n<1099511627776) (K:InT T xs) (al:T.nums.length=T.nodes.length) :
  Calls prog 173 #[.pointer (some ⟨p,0,none⟩),.slice a n c] w fun e w'=>e = .returned (.bool (lH T xs))/\w'=w:=by
 have V:=Z D.len;have ae:=Z D;have ab:=Z K;obtain ⟨q,ag,c1,Y,c2,m,C⟩:=h.look;have an:w.cell? ⟨p,2,none⟩=some (.slice Y T.nums.length c2):=E C.blk 2;have aa:=Z C;clear D K h C;go_enter func173,ntmps173
 go_wp2
 go_loopw [5,7,10] (fun o _ i wr=>∃k:Nat,k<=n/\i = .int .i64 k/\o = .int .i64 (iJ T xs k)/\wr=w) (fun _ _ i _=>n - (intOf i).toNat)
 case atStart=>exact⟨0,aN,rfl,by simp [iJ,lG],rfl⟩
 case round=>
  obtain ⟨k,aj,rfl,rfl,rfl⟩:=hrel;by_cases O:k<n
  ·have N:k<xs.length:=by rw [V.o];exact O
   obtain ⟨b,o,rfl,af⟩:=ae.o.at k O;obtain ⟨G,I⟩:=ab.o (nth xs k) (cB N);have r:=Z (aE4 (T:=T) N);obtain ⟨j,L⟩:=fK G;rw [L] at af I r;have ad:j<T.nums.length:=by omega
   have ai:(j:Int)<T.nums.length:=by omega
   obtain ⟨ah,ao,rfl,U,_⟩:=aa.o.numCell ad;have am:=aI0 (T:=T) (xs:=xs) (k:=k);clear G I L;cases l:(numAt T j).1
   case true=>
    have y:=@Z (iJ T xs (k+1)=iJ T xs k) (by rw [r.o,l];rfl);rw [l] at U;clear l r;go_wp2
    go_roundw
    case rel=>exact⟨k+1,by omega,by go_num,by rw [y.o],trivial⟩
    case measure=>simp [intOf];omega
   case false=>
    have y:=@Z (iJ T xs (k+1)=iJ T xs k+1) (by rw [r.o,l];rfl);rw [l] at U;clear l r;generalize iJ T xs k=z at *;go_wp2
    go_roundw
    case rel=>exact⟨k+1,by omega,by go_num,by rw [y.o];go_num,trivial⟩
    case measure=>simp [intOf];omega
  ·have M:k=n:=by omega
   have y:=@Z (lH T xs=decide ((iJ T xs k:Int)<=1)) (by
    unfold lH;rw [M,<-V.o,aHg];by_cases J:lG T xs<=1
    ·simp [J];omega
    ·simp [J];omega)
   clear M;generalize iJ T xs k=z at *;go_wp2;go_ret;exact⟨aI y.o.symm,rfl⟩
theorem jQ.from1 {w:World} {a:Option Addr} {n c:Nat} {xs:List Int} (h:jQ w a n xs) (E:1<=n) (l:n<=c):jQ w (kV a c 1 1) (n - 1) (xs.drop 1):=by
 refine⟨by rw [kQ,h.len],fun x y=>h.wf x (pV y),fun C=>?_⟩;obtain ⟨b,o,rfl,r,l⟩:=h.cells (by omega);unfold kV;rw [if_neg (by omega)];refine⟨b,o+1,by simp [Addr.add],r,fun j D=>?_⟩;have:=l (j+1) (by omega);rw [show o+1+j=o+(j+1) by omega,this];simp [nth,List.getD]
theorem aRd (w:World):(sizeOf 3).run prog w = .ok 1 w:=by kernel_rfl
theorem aFj {a:Option Addr} {n c:Nat} (j:1<=n) (h:n<=c) (W:World):(Instr.slice 23 (.slice a n c) (some (.int .i64 1)) none none).run prog W = .ok (.slice (kV a c 1 1) (n - 1) (c - 1)) W:=
 aAt (k:=1) underlying23 aRd j h W
theorem InT.drop {T:aC} {xs:List Int} (h:InT T xs) (k:Nat):InT T (xs.drop k):=fun x j=>h x (pV j)
theorem aHh (B p:Nat) (T:aC) (a:Option Addr) (n c:Nat) (xs:List Int) (w:World) (h:dG B p T w) (I:jQ w a n xs) (V:n<1099511627776) (l:1<=n) (D:n<=c) (C:InT T xs) (Y:T.nums.length=T.nodes.length) :
  Calls prog 174 #[.pointer (some ⟨p,0,none⟩),.slice a n c] w fun e w'=>e = .returned (.bool (fD T xs))/\Below w.heap.size w w':=by
 have hd:=@Z (fD T xs = !((xs.drop 1).any (jG T))) rfl;have j:Below w.heap.size w (w.alloc (.cells #[.pointer (some ⟨p,0,none⟩)] 26)):=bJ;have y:=cC w (.cells #[.pointer (some ⟨p,0,none⟩)] 26);have aa:=fun W=>aFj (a:=a) l D W
 have N:=Z (aRc (jG T) (kV a c 1 1) (n - 1) (c - 1) w.heap.size (xs.drop 1) _ ((I.from1 l D).below j aA) (by omega) (fun J G x O=>by
  obtain ⟨K,U⟩:=C.drop 1 x O;obtain ⟨k,rfl⟩:=fK K;exact aO9 B p T k w.heap.size J ((h.all j).all G) (by omega) (E ((G.block _ (by simp)).trans y) 0)))
 have L:=Z j;clear h I C j y;go_enter func174,ntmps174
 go_wp2_with fail
 refine N.o.mono ?_;rintro e J ⟨rfl,r⟩;have M:=Z (L.o.trans (r.mono (by simp)));clear r;go_wp2;go_ret;exact⟨aI (by rw [hd.o,List.drop_one]),M.o⟩
theorem kD (B p:Nat) (T:aC) (op:Int) (a:Option Addr) (n c:Nat) (xs:List Int) (w:World) (h:dG B p T w) (G:jQ w a n xs) (U:n<1099511627776) (ae:n<=c) (J:InT T xs) (aa:T.nums.length=T.nodes.length) :
  Calls prog 135 #[.pointer (some ⟨p,0,none⟩),.int .i64 op,.slice a n c] w fun e w'=>e = .returned (.bool (bP T op xs))/\Below w.heap.size w w':=by
 have hd:=@Z (bP T op xs=if (xs.length:Int)<jW op then false else if eM T xs 1 then(if op=15 then lH T xs else if op=16 then fD T xs else true) else false) rfl;have I:=Z G.len;have D:=Z (qE B p T a n c xs 1 w h G U J);have af:=Z (fun(C:World) (E:Below w.heap.size w C)=>aI1 B p T a n c xs C (h.all E) (G.below E aA) U J aa);have ag:=Z (fun(C:World) (K:1<=n) (E:Below w.heap.size w C)=>aHh B p T a n c xs C (h.all E) (G.below E aA) U K ae J aa);clear h G J;by_cases ab:op=14
 ·subst ab;by_cases K:n<1
  ·have l:=@Z (false=bP T 14 xs) (by rw [hd.o,I.o];simp [jW,show n=0 by omega]);have L:(n:Int)<1:=by omega
   go_enter func135,ntmps135
   go_wp2;go_ret;exact⟨aI l.o,aO _ _⟩
  ·have L:¬(n:Int)<1:=by omega
   cases y:eM T xs 1
   case false=>
    have l:=@Z (false=bP T 14 xs) (by rw [hd.o,I.o,y];simp);rw [y] at D;clear y;go_enter func135,ntmps135
    go_wp2_with fail
    refine D.o.mono ?_;rintro e C ⟨rfl,j⟩;have r:=Z j;clear j;go_wp2;go_ret;exact⟨aI l.o,r.o⟩
   case true=>
    have l:=@Z (true=bP T 14 xs) (by rw [hd.o,I.o,y];simp [jW];omega);rw [y] at D;clear y;go_enter func135,ntmps135
    go_wp2_with fail
    refine D.o.mono ?_;rintro e C ⟨rfl,j⟩;have r:=Z j;clear j;go_wp2;go_ret;exact⟨aI l.o,r.o⟩
 have O:=@Z (jW op=2) (by unfold jW;rw [if_neg ab]);by_cases K:n<2
 ·have l:=@Z (false=bP T op xs) (by rw [hd.o,I.o,O.o,if_pos (by omega)]);have L:(n:Int)<2:=by omega
  go_enter func135,ntmps135
  go_wp2;go_ret;exact⟨aI l.o,aO _ _⟩
 ·have L:¬(n:Int)<2:=by omega
  have M:=@Z (bP T op xs=if eM T xs 1 then(if op=15 then lH T xs else if op=16 then fD T xs else true) else false) (by rw [hd.o,I.o,O.o,if_neg (by omega)]);clear hd O;cases y:eM T xs 1
  case false=>
   have l:=@Z (false=bP T op xs) (by rw [M.o,y];rfl);rw [y] at D;clear y;go_enter func135,ntmps135
   go_wp2_with fail
   refine D.o.mono ?_;rintro e C ⟨rfl,j⟩;have r:=Z j;clear j;go_wp2;go_ret;exact⟨aI l.o,r.o⟩
  case true=>
   have N:=@Z (bP T op xs=(if op=15 then lH T xs else if op=16 then fD T xs else true)) (by rw [M.o,y];rfl);rw [y] at D;clear y M;by_cases V:op=15
   ·subst V;have l:=@Z (lH T xs=bP T 15 xs) (by rw [N.o];rfl);go_enter func135,ntmps135
    go_wp2_with fail
    refine D.o.mono ?_;rintro e C ⟨rfl,j⟩;have r:=Z j;clear j
    go_wp2_with fail
    refine(af.o C r.o).mono ?_;rintro e ah ⟨rfl,rfl⟩;go_wp2;go_ret;exact⟨aI l.o,r.o⟩
   ·by_cases Y:op=16
    ·subst Y;have l:=@Z (fD T xs=bP T 16 xs) (by rw [N.o];rfl);go_enter func135,ntmps135
     go_wp2_with fail
     refine D.o.mono ?_;rintro e C ⟨rfl,j⟩;have r:=Z j;clear j
     go_wp2_with fail
     refine(ag.o C (by omega) r.o).mono ?_;rintro e ah ⟨rfl,j⟩;have ad:=Z (r.o.trans (j.mono r.o.size));clear j;go_wp2;go_ret;exact⟨aI l.o,ad.o⟩
    ·have l:=@Z (true=bP T op xs) (by rw [N.o];simp [V,Y]);go_enter func135,ntmps135
     go_wp2_with fail
     refine D.o.mono ?_;rintro e C ⟨rfl,j⟩;have r:=Z j;clear j;go_wp2;go_ret;exact⟨aI l.o,r.o⟩
def aAv (T:aC) (xs ss:List Int) (k:Nat):Prop:=∀j,j<k->(nodeAt T (nth xs j)).sort=nth ss j
theorem mF {T:aC}:∀ {xs ss:List Int},xs.length=ss.length->(dN T xs ss=true↔aAv T xs ss xs.length)
 | [],[],_=>by simp [dN,aAv]
 |
  x :: xs,s :: ss,h=>by
  have C:=mF (T:=T) (xs:=xs) (ss:=ss) (by simpa using h);unfold dN;rw [jS,C];constructor
  ·rintro ⟨r,y⟩ j l;cases j with
   | zero=>simpa [nth] using r
   | succ j=>have:=y j (by simpa using l);simpa [nth] using this
  ·intro h;exact⟨by have:=h 0 (by simp);simpa [nth] using this,fun j l=>by have:=h (j+1) (by simpa using l);simpa [nth] using this⟩
 | [],_ :: _,h=>by simp at h
 | _ :: _,[],h=>by simp at h
theorem aRe (B p:Nat) (T:aC) (nm:ByteArray) (a:Option Addr) (n c:Nat) (xs:List Int) (w:World) (h:dG B p T w) (an:jQ w a n xs) (aS:n<1099511627776) (ah:InT T xs) (a0:wV T.S) :
  Calls prog 134 #[.pointer (some ⟨p,0,none⟩),.string nm,.slice a n c] w fun e w'=>e = .returned (.tuple #[.int .i64 (iA T nm xs).1,.bool (iA T nm xs).2])/\Below w.heap.size w w':=by
 have hd:=@Z (iA T nm xs=if (jA T.S nm).isSome/\(fM T.S nm).args.length=xs.length then(if dN T xs (fM T.S nm).args then((fM T.S nm).res,true) else(0,false)) else(0,false)) rfl;have af:=Z an.len;have aE:=Z an;have a7:=Z ah;have a5:=Z h;obtain ⟨q,ap,c1,a2,c2,m,I⟩:=h.look;have aW:w.cell? ⟨p,0,none⟩=some (.pointer (some ⟨q,0,none⟩)):=E I.blk 0;obtain ⟨a1,az⟩:=I.srt;have U:=Z (aIv a1 q T.S nm w az a0);have aT:=h.plt;clear an ah h I az;have aw:∀b x,(iA T nm xs)=(x,b)->Value.tuple #[.int .i64 x,.bool b] = .tuple #[.int .i64 (iA T nm xs).1,.bool (iA T nm xs).2]:=fun b x e=>by rw [e]
 have aK:=Z aw;clear aw;cases L:(jA T.S nm).isSome
 case false=>
  have D:=@Z (iA T nm xs=(0,false)) (by rw [hd.o,L];simp);rw [L] at U;clear L hd;go_enter func134,ntmps134
  go_wp2_with fail
  refine U.o.mono ?_;rintro e G ⟨r,C,rfl,K,N,O,l⟩;have M:=Z (l.alloc l.size (.cells #[.string (fM T.S nm).name,.slice r (fM T.S nm).args.length C,.int .i64 (fM T.S nm).res] 114));clear l K N O;go_wp2;go_ret2;exact⟨by rw [D.o];rfl,M.o⟩
 case true=>
 rw [L] at U;have ab:=@Z (iA T nm xs=if (fM T.S nm).args.length=xs.length then(if dN T xs (fM T.S nm).args then((fM T.S nm).res,true) else(0,false)) else(0,false)) (by rw [hd.o,L];simp);clear L hd;generalize ag:fM T.S nm=F at *;have aL:F.args.length<1099511627776:=by
  rw [<-ag];unfold fM;cases a6:jA T.S nm with
  | none=>simp [qD]
  | some f=>exact a0.a f (mK a6)
 by_cases ad:F.args.length=n
 case neg=>
  have D:=@Z (iA T nm xs=(0,false)) (by rw [ab.o,af.o,if_neg ad]);have aR:¬(F.args.length:Int)=n:=by omega
  clear ab;go_enter func134,ntmps134
  go_wp2_with fail
  refine U.o.mono ?_;rintro e G ⟨r,C,rfl,K,N,O,l⟩;have M:=Z (l.alloc l.size (.cells #[.string F.name,.slice r F.args.length C,.int .i64 F.res] 114));clear l K N O ag;go_wp2;go_ret2;exact⟨by rw [D.o];rfl,M.o⟩
 case pos=>
 have av:=@Z (iA T nm xs=if dN T xs F.args then(F.res,true) else(0,false)) (by rw [ab.o,af.o,if_pos ad]);have ai:=Z (show xs.length=F.args.length by rw [af.o,ad]);clear ab;subst ad;go_enter func134,ntmps134
 go_wp2_with fail
 refine U.o.mono ?_;rintro e G ⟨r,C,rfl,K,N,O,l⟩;have M:=Z (l.alloc l.size (.cells #[.string F.name,.slice r F.args.length C,.int .i64 F.res] 114));have aJ:=Z l;have aB:=Z (K.toI.below ((aO _ _).alloc aA (.cells #[.string F.name,.slice r F.args.length C,.int .i64 F.res] 114)) aA);have au:=Z (cC G (.cells #[.string F.name,.slice r F.args.length C,.int .i64 F.res] 114));generalize ar:G.alloc (.cells #[.string F.name,.slice r F.args.length C,.int .i64 F.res] 114)=Y at *;have aU:Y.heap.size=G.heap.size+1:=by rw [<-ar];simp
 have a3:Y.cell? ⟨G.heap.size,1,none⟩=some (.slice r F.args.length C):=E au.o 1;clear l K N O ag;go_wp2;clear ar
 go_loopw [10,11,33] (fun _ _ i wr=>∃k:Nat,k<=F.args.length/\i = .int .i64 k/\Hid (aAv T xs F.args k)/\Hid (Below Y.heap.size Y wr)) (fun _ _ i _=>F.args.length - (intOf i).toNat)
 case atStart=>exact⟨0,aN,rfl,fun j J=>absurd J (oX _),aO _ _⟩
 case round=>
  obtain ⟨k,aP,rfl,ak,aa⟩:=hrel;have V:=Z (aG M aa.o);have ao:=Z ((aa.o.block G.heap.size (by omega)).trans au.o);have a3:wr.cell? ⟨G.heap.size,1,none⟩=some (.slice r F.args.length C):=E ao.o 1;have aI:wr.cell? ⟨G.heap.size,2,none⟩=some (.int .i64 F.res):=E ao.o 2;by_cases aj:k<F.args.length
  ·have ay:k<xs.length:=by rw [af.o];exact aj
   have aQ:(k:Int)<F.args.length:=by omega
   obtain ⟨b,o,rfl,aF⟩:=(aE.o.below V.o aA).at k aj;obtain ⟨b2,bb,rfl,aX⟩:=(aB.o.below aa.o aA).at k aj;obtain ⟨aq,a4⟩:=a7.o (nth xs k) (cB ay);obtain ⟨j,J⟩:=fK aq;obtain ⟨q,ap,c1,a2,c2,m,I⟩:=(a5.o.all V.o).look;have a9:j<T.nodes.length:=by omega
   have aM:(j:Int)<T.nodes.length:=by omega
   have aY:wr.cell? ⟨p,1,none⟩=some (.slice ap T.nodes.length c1):=E I.blk 1;obtain ⟨aH,ba,rfl,aZ,_⟩:=I.sortCell a9;have am:=@Z ((nodeAt T j).sort=nth F.args k->aAv T xs F.args (k+1)) (fun e i ah=>by
    by_cases a8:i<k
    ·exact ak.o i a8
    ·obtain rfl:i=k:=by omega
     rw [J];exact e)
   have al:=@Z ((nodeAt T j).sort≠nth F.args k->dN T xs F.args=false) (fun e=>by
    cases aD:dN T xs F.args
    ·rfl
    ·exact absurd (by have:=(mF ai.o).1 aD k ay;rw [J] at this;exact this) e)
   rw [J] at aF;clear I aq a4 J ak;generalize (nodeAt T j).sort=z at *;generalize nth F.args k=y at *;by_cases ae:z=y
   ·have D:=Z (am.o ae);subst ae;clear al am;go_wp2
    go_quiet (fail)
    go_wp2
    go_roundw
    case rel=>exact⟨k+1,by omega,by go_num,D.o,aa.o.drewN _⟩
    case measure=>simp [intOf];omega
   ·have D:=@Z (iA T nm xs=(0,false)) (by rw [av.o,al.o ae];rfl);have aV:decide (z=y)=false:=by simpa using ae
    clear al am;go_wp2
    go_quiet (fail)
    go_wp2;go_ret2;exact⟨by rw [D.o];rfl,V.o.drewN _⟩
  ·have ax:k=xs.length:=by have:=ai.o;omega
   have D:=@Z (iA T nm xs=(F.res,true)) (by rw [av.o,if_pos ((mF ai.o).2 (ax ▸ ak.o))]);clear ax;go_wp2;go_ret2;exact⟨by rw [D.o];rfl,V.o⟩
structure rJ (B p:Nat) (T:aC) (a:Option Addr) (n c:Nat) (xs:List Int) (w:World):Prop where
 h:dG B p T w
 hx:jQ w a n xs
 hn:n<1099511627776
 hnc:n<=c
 hi:InT T xs
 hs:wV T.S
 hnn:T.nums.length=T.nodes.length
def cG (T:aC) (op:Int) (nm:ByteArray) (xs:List Int) (w:World) (e:Ending) (w':World):Prop:=e = .returned (.tuple #[.int .i64 (aD T op nm xs).1,.bool (aD T op nm xs).2])/\Below w.heap.size w w'
theorem cG.of {T:aC} {op:Int} {nm:ByteArray} {xs:List Int} {w w':World} {s:Int} {b:Bool} (h:aD T op nm xs=(s,b)) (j:Below w.heap.size w w'):cG T op nm xs w (.returned (.tuple #[.int .i64 s,.bool b])) w':=⟨by rw [h],j⟩
theorem cG.of2 {T:aC} {op:Int} {nm:ByteArray} {xs:List Int} {w w':World} {s:Int} {b b2:Bool} (h:aD T op nm xs=(s,b)) (e:b2=b) (j:Below w.heap.size w w'):cG T op nm xs w (.returned (.tuple #[.int .i64 s,.bool b2])) w':=⟨by rw [h,e],j⟩
theorem aI2 (B p:Nat) (T:aC) (nm:ByteArray) (a:Option Addr) (n c:Nat) (xs:List Int) (w:World) (H:rJ B p T a n c xs w) :
  Calls prog 87 #[.pointer (some ⟨p,0,none⟩),.int .i64 1,.string nm,.slice a n c] w fun e w'=>cG T 1 nm xs w e w':=by
 have j:=Z H.hx.len;have h:=@Z (aD T 1 nm xs=(0,decide (n=0))) (by show(_,_)=_;rw [j.o]);have l:=H.hn;clear H;go_enter func87,ntmps87
 go_wp2;go_ret2;exact cG.of2 (b2:=decide ((n:Int)=0)) h.o (by simp) (aO _ _)
theorem aI3 (B p:Nat) (T:aC) (nm:ByteArray) (a:Option Addr) (n c:Nat) (xs:List Int) (w:World) (H:rJ B p T a n c xs w) :
  Calls prog 87 #[.pointer (some ⟨p,0,none⟩),.int .i64 2,.string nm,.slice a n c] w fun e w'=>cG T 2 nm xs w e w':=by
 have j:=Z H.hx.len;have h:=@Z (aD T 2 nm xs=(0,decide (n=0))) (by show(_,_)=_;rw [j.o]);have l:=H.hn;clear H;go_enter func87,ntmps87
 go_wp2;go_ret2;exact cG.of2 (b2:=decide ((n:Int)=0)) h.o (by simp) (aO _ _)
theorem aHi (B p:Nat) (T:aC) (nm:ByteArray) (a:Option Addr) (n c:Nat) (xs:List Int) (w:World) (H:rJ B p T a n c xs w) :
  Calls prog 87 #[.pointer (some ⟨p,0,none⟩),.int .i64 11,.string nm,.slice a n c] w fun e w'=>cG T 11 nm xs w e w':=by
 have j:=Z H.hx.len;have h:=@Z (aD T 11 nm xs=(1,decide (n=0))) (by show(_,_)=_;rw [j.o]);have l:=H.hn;clear H;go_enter func87,ntmps87
 go_wp2;go_ret2;exact cG.of2 (b2:=decide ((n:Int)=0)) h.o (by simp) (aO _ _)
theorem aI4 (B p:Nat) (T:aC) (nm:ByteArray) (a:Option Addr) (n c:Nat) (xs:List Int) (w:World) (H:rJ B p T a n c xs w) :
  Calls prog 87 #[.pointer (some ⟨p,0,none⟩),.int .i64 3,.string nm,.slice a n c] w fun e w'=>cG T 3 nm xs w e w':=by
 have E:=Z H.hx.len;have C:=Z (qE B p T a n c xs 0 w H.h H.hx H.hn H.hi);have hd:=@Z (aD T 3 nm xs=(0,decide (n=1) && eM T xs 0)) (by show(_,_)=_;rw [E.o]);have I:=H.hn;clear H;by_cases j:n=1
 ·have l:=@Z (aD T 3 nm xs=(0,eM T xs 0)) (by rw [hd.o,bV j,eT]);subst j;clear hd;go_enter func87,ntmps87
  go_wp2_with fail
  refine C.o.mono ?_;rintro e J ⟨rfl,r⟩;have D:=Z r;clear r;go_wp2;go_ret2;exact cG.of l.o D.o
 ·have l:=@Z (aD T 3 nm xs=(0,false)) (by rw [hd.o,aR j,kR]);have y:¬(n:Int)=1:=by omega
  have G:decide ((n:Int)=1)=false:=by simpa using y
  clear hd;go_enter func87,ntmps87
  go_wp2;go_ret2;exact cG.of l.o (aO _ _)
theorem aI5 (B p:Nat) (T:aC) (nm:ByteArray) (a:Option Addr) (n c:Nat) (xs:List Int) (w:World) (H:rJ B p T a n c xs w) :
  Calls prog 87 #[.pointer (some ⟨p,0,none⟩),.int .i64 4,.string nm,.slice a n c] w fun e w'=>cG T 4 nm xs w e w':=by
 have E:=Z H.hx.len;have C:=Z (qE B p T a n c xs 0 w H.h H.hx H.hn H.hi);have hd:=@Z (aD T 4 nm xs=(0,decide (2<=n) && eM T xs 0)) (by show(_,_)=_;rw [E.o]);have I:=H.hn;clear H;by_cases l:2<=n
 ·have j:=@Z (aD T 4 nm xs=(0,eM T xs 0)) (by rw [hd.o,bV l,eT]);have r:(2:Int)<=n:=by omega
  clear hd;go_enter func87,ntmps87
  go_wp2_with fail
  refine C.o.mono ?_;rintro e J ⟨rfl,y⟩;have D:=Z y;clear y;go_wp2;go_ret2;exact cG.of j.o D.o
 ·have j:=@Z (aD T 4 nm xs=(0,false)) (by rw [hd.o,aR l,kR]);have r:¬(2:Int)<=n:=by omega
  have G:decide ((2:Int)<=n)=false:=by simpa using r
  clear hd;go_enter func87,ntmps87
  go_wp2;go_ret2;exact cG.of j.o (aO _ _)
theorem aI6 (B p:Nat) (T:aC) (nm:ByteArray) (a:Option Addr) (n c:Nat) (xs:List Int) (w:World) (H:rJ B p T a n c xs w) :
  Calls prog 87 #[.pointer (some ⟨p,0,none⟩),.int .i64 5,.string nm,.slice a n c] w fun e w'=>cG T 5 nm xs w e w':=by
 have E:=Z H.hx.len;have C:=Z (qE B p T a n c xs 0 w H.h H.hx H.hn H.hi);have hd:=@Z (aD T 5 nm xs=(0,decide (2<=n) && eM T xs 0)) (by show(_,_)=_;rw [E.o]);have I:=H.hn;clear H;by_cases l:2<=n
 ·have j:=@Z (aD T 5 nm xs=(0,eM T xs 0)) (by rw [hd.o,bV l,eT]);have r:(2:Int)<=n:=by omega
  clear hd;go_enter func87,ntmps87
  go_wp2_with fail
  refine C.o.mono ?_;rintro e J ⟨rfl,y⟩;have D:=Z y;clear y;go_wp2;go_ret2;exact cG.of j.o D.o
 ·have j:=@Z (aD T 5 nm xs=(0,false)) (by rw [hd.o,aR l,kR]);have r:¬(2:Int)<=n:=by omega
  have G:decide ((2:Int)<=n)=false:=by simpa using r
  clear hd;go_enter func87,ntmps87
  go_wp2;go_ret2;exact cG.of j.o (aO _ _)
theorem aI7 (B p:Nat) (T:aC) (nm:ByteArray) (a:Option Addr) (n c:Nat) (xs:List Int) (w:World) (H:rJ B p T a n c xs w) :
  Calls prog 87 #[.pointer (some ⟨p,0,none⟩),.int .i64 6,.string nm,.slice a n c] w fun e w'=>cG T 6 nm xs w e w':=by
 have E:=Z H.hx.len;have C:=Z (qE B p T a n c xs 0 w H.h H.hx H.hn H.hi);have hd:=@Z (aD T 6 nm xs=(0,decide (2<=n) && eM T xs 0)) (by show(_,_)=_;rw [E.o]);have I:=H.hn;clear H;by_cases l:2<=n
 ·have j:=@Z (aD T 6 nm xs=(0,eM T xs 0)) (by rw [hd.o,bV l,eT]);have r:(2:Int)<=n:=by omega
  clear hd;go_enter func87,ntmps87
  go_wp2_with fail
  refine C.o.mono ?_;rintro e J ⟨rfl,y⟩;have D:=Z y;clear y;go_wp2;go_ret2;exact cG.of j.o D.o
 ·have j:=@Z (aD T 6 nm xs=(0,false)) (by rw [hd.o,aR l,kR]);have r:¬(2:Int)<=n:=by omega
  have G:decide ((2:Int)<=n)=false:=by simpa using r
  clear hd;go_enter func87,ntmps87
  go_wp2;go_ret2;exact cG.of j.o (aO _ _)
theorem aI8 (B p:Nat) (T:aC) (nm:ByteArray) (a:Option Addr) (n c:Nat) (xs:List Int) (w:World) (H:rJ B p T a n c xs w) :
  Calls prog 87 #[.pointer (some ⟨p,0,none⟩),.int .i64 7,.string nm,.slice a n c] w fun e w'=>cG T 7 nm xs w e w':=by
 have E:=Z H.hx.len;have C:=Z (qE B p T a n c xs 0 w H.h H.hx H.hn H.hi);have hd:=@Z (aD T 7 nm xs=(0,decide (2<=n) && eM T xs 0)) (by show(_,_)=_;rw [E.o]);have I:=H.hn;clear H;by_cases l:2<=n
 ·have j:=@Z (aD T 7 nm xs=(0,eM T xs 0)) (by rw [hd.o,bV l,eT]);have r:(2:Int)<=n:=by omega
  clear hd;go_enter func87,ntmps87
  go_wp2_with fail
  refine C.o.mono ?_;rintro e J ⟨rfl,y⟩;have D:=Z y;clear y;go_wp2;go_ret2;exact cG.of j.o D.o
 ·have j:=@Z (aD T 7 nm xs=(0,false)) (by rw [hd.o,aR l,kR]);have r:¬(2:Int)<=n:=by omega
  have G:decide ((2:Int)<=n)=false:=by simpa using r
  clear hd;go_enter func87,ntmps87
  go_wp2;go_ret2;exact cG.of j.o (aO _ _)
theorem aI9 (B p:Nat) (T:aC) (nm:ByteArray) (a:Option Addr) (n c:Nat) (xs:List Int) (w:World) (H:rJ B p T a n c xs w) :
  Calls prog 87 #[.pointer (some ⟨p,0,none⟩),.int .i64 8,.string nm,.slice a n c] w fun e w'=>cG T 8 nm xs w e w':=by
 have r:=Z (xN B p T a n c xs w H.h H.hx H.hn H.hi);have y:=@Z (aD T 8 nm xs=(0,jV T xs)) (by rfl);have C:=H.hn;clear H;go_enter func87,ntmps87
 go_wp2_with fail
 refine r.o.mono ?_;rintro e D ⟨rfl,j⟩;have l:=Z j;clear j;go_wp2;go_ret2;exact cG.of y.o l.o
theorem aJa (B p:Nat) (T:aC) (nm:ByteArray) (a:Option Addr) (n c:Nat) (xs:List Int) (w:World) (H:rJ B p T a n c xs w) :
  Calls prog 87 #[.pointer (some ⟨p,0,none⟩),.int .i64 9,.string nm,.slice a n c] w fun e w'=>cG T 9 nm xs w e w':=by
 have r:=Z (xN B p T a n c xs w H.h H.hx H.hn H.hi);have y:=@Z (aD T 9 nm xs=(0,jV T xs)) (by rfl);have C:=H.hn;clear H;go_enter func87,ntmps87
 go_wp2_with fail
 refine r.o.mono ?_;rintro e D ⟨rfl,j⟩;have l:=Z j;clear j;go_wp2;go_ret2;exact cG.of y.o l.o
theorem aHj (B p:Nat) (T:aC) (nm:ByteArray) (a:Option Addr) (n c:Nat) (xs:List Int) (w:World) (H:rJ B p T a n c xs w) :
  Calls prog 87 #[.pointer (some ⟨p,0,none⟩),.int .i64 12,.string nm,.slice a n c] w fun e w'=>cG T 12 nm xs w e w':=by
 have r:=Z (aRe B p T nm a n c xs w H.h H.hx H.hn H.hi H.hs);have y:=@Z (aD T 12 nm xs=((iA T nm xs).1,(iA T nm xs).2)) (by rfl);have C:=H.hn;clear H;go_enter func87,ntmps87
 go_wp2_with fail
 refine r.o.mono ?_;rintro e D ⟨rfl,j⟩;have l:=Z j;clear j;go_wp2;go_ret2;exact cG.of y.o l.o
theorem aHk (B p:Nat) (T:aC) (nm:ByteArray) (a:Option Addr) (n c:Nat) (xs:List Int) (w:World) (H:rJ B p T a n c xs w) :
  Calls prog 87 #[.pointer (some ⟨p,0,none⟩),.int .i64 17,.string nm,.slice a n c] w fun e w'=>cG T 17 nm xs w e w':=by
 have r:=Z (kD B p T 17 a n c xs w H.h H.hx H.hn H.hnc H.hi H.hnn);have y:=@Z (aD T 17 nm xs=(0,bP T 17 xs)) (by rfl);have C:=H.hn;clear H;go_enter func87,ntmps87
 go_wp2_with fail
 refine r.o.mono ?_;rintro e D ⟨rfl,j⟩;have l:=Z j;clear j;go_wp2;go_ret2;exact cG.of y.o l.o
theorem aHl (B p:Nat) (T:aC) (nm:ByteArray) (a:Option Addr) (n c:Nat) (xs:List Int) (w:World) (H:rJ B p T a n c xs w) :
  Calls prog 87 #[.pointer (some ⟨p,0,none⟩),.int .i64 18,.string nm,.slice a n c] w fun e w'=>cG T 18 nm xs w e w':=by
 have r:=Z (kD B p T 18 a n c xs w H.h H.hx H.hn H.hnc H.hi H.hnn);have y:=@Z (aD T 18 nm xs=(0,bP T 18 xs)) (by rfl);have C:=H.hn;clear H;go_enter func87,ntmps87
 go_wp2_with fail
 refine r.o.mono ?_;rintro e D ⟨rfl,j⟩;have l:=Z j;clear j;go_wp2;go_ret2;exact cG.of y.o l.o
theorem aHm (B p:Nat) (T:aC) (nm:ByteArray) (a:Option Addr) (n c:Nat) (xs:List Int) (w:World) (H:rJ B p T a n c xs w) :
  Calls prog 87 #[.pointer (some ⟨p,0,none⟩),.int .i64 19,.string nm,.slice a n c] w fun e w'=>cG T 19 nm xs w e w':=by
 have r:=Z (kD B p T 19 a n c xs w H.h H.hx H.hn H.hnc H.hi H.hnn);have y:=@Z (aD T 19 nm xs=(0,bP T 19 xs)) (by rfl);have C:=H.hn;clear H;go_enter func87,ntmps87
 go_wp2_with fail
 refine r.o.mono ?_;rintro e D ⟨rfl,j⟩;have l:=Z j;clear j;go_wp2;go_ret2;exact cG.of y.o l.o
theorem aHn (B p:Nat) (T:aC) (nm:ByteArray) (a:Option Addr) (n c:Nat) (xs:List Int) (w:World) (H:rJ B p T a n c xs w) :
  Calls prog 87 #[.pointer (some ⟨p,0,none⟩),.int .i64 20,.string nm,.slice a n c] w fun e w'=>cG T 20 nm xs w e w':=by
 have r:=Z (kD B p T 20 a n c xs w H.h H.hx H.hn H.hnc H.hi H.hnn);have y:=@Z (aD T 20 nm xs=(0,bP T 20 xs)) (by rfl);have C:=H.hn;clear H;go_enter func87,ntmps87
 go_wp2_with fail
 refine r.o.mono ?_;rintro e D ⟨rfl,j⟩;have l:=Z j;clear j;go_wp2;go_ret2;exact cG.of y.o l.o
theorem aHo (B p:Nat) (T:aC) (nm:ByteArray) (a:Option Addr) (n c:Nat) (xs:List Int) (w:World) (H:rJ B p T a n c xs w) :
  Calls prog 87 #[.pointer (some ⟨p,0,none⟩),.int .i64 13,.string nm,.slice a n c] w fun e w'=>cG T 13 nm xs w e w':=by
 have r:=Z (kD B p T 13 a n c xs w H.h H.hx H.hn H.hnc H.hi H.hnn);have y:=@Z (aD T 13 nm xs=(1,bP T 13 xs)) (by rfl);have C:=H.hn;clear H;go_enter func87,ntmps87
 go_wp2_with fail
 refine r.o.mono ?_;rintro e D ⟨rfl,j⟩;have l:=Z j;clear j;go_wp2;go_ret2;exact cG.of y.o l.o
theorem aHp (B p:Nat) (T:aC) (nm:ByteArray) (a:Option Addr) (n c:Nat) (xs:List Int) (w:World) (H:rJ B p T a n c xs w) :
  Calls prog 87 #[.pointer (some ⟨p,0,none⟩),.int .i64 14,.string nm,.slice a n c] w fun e w'=>cG T 14 nm xs w e w':=by
 have r:=Z (kD B p T 14 a n c xs w H.h H.hx H.hn H.hnc H.hi H.hnn);have y:=@Z (aD T 14 nm xs=(1,bP T 14 xs)) (by rfl);have C:=H.hn;clear H;go_enter func87,ntmps87
 go_wp2_with fail
 refine r.o.mono ?_;rintro e D ⟨rfl,j⟩;have l:=Z j;clear j;go_wp2;go_ret2;exact cG.of y.o l.o
theorem aHq (B p:Nat) (T:aC) (nm:ByteArray) (a:Option Addr) (n c:Nat) (xs:List Int) (w:World) (H:rJ B p T a n c xs w) :
  Calls prog 87 #[.pointer (some ⟨p,0,none⟩),.int .i64 15,.string nm,.slice a n c] w fun e w'=>cG T 15 nm xs w e w':=by
 have r:=Z (kD B p T 15 a n c xs w H.h H.hx H.hn H.hnc H.hi H.hnn);have y:=@Z (aD T 15 nm xs=(1,bP T 15 xs)) (by rfl);have C:=H.hn;clear H;go_enter func87,ntmps87
 go_wp2_with fail
 refine r.o.mono ?_;rintro e D ⟨rfl,j⟩;have l:=Z j;clear j;go_wp2;go_ret2;exact cG.of y.o l.o
theorem aHr (B p:Nat) (T:aC) (nm:ByteArray) (a:Option Addr) (n c:Nat) (xs:List Int) (w:World) (H:rJ B p T a n c xs w) :
  Calls prog 87 #[.pointer (some ⟨p,0,none⟩),.int .i64 16,.string nm,.slice a n c] w fun e w'=>cG T 16 nm xs w e w':=by
 have r:=Z (kD B p T 16 a n c xs w H.h H.hx H.hn H.hnc H.hi H.hnn);have y:=@Z (aD T 16 nm xs=(1,bP T 16 xs)) (by rfl);have C:=H.hn;clear H;go_enter func87,ntmps87
 go_wp2_with fail
 refine r.o.mono ?_;rintro e D ⟨rfl,j⟩;have l:=Z j;clear j;go_wp2;go_ret2;exact cG.of y.o l.o
end Go.Proofs.YtgoojkiccdjplaaGreatDoor
