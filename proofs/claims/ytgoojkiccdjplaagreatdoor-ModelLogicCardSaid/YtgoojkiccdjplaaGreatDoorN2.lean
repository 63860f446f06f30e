/-
  Parts of this claim's texts, one behind the other: SD SE SF SG TT TU MS YA. No condition.
-/
import Derived.Test.YtgoojkiccdjplaaGreatDoorN1
import Derived.Deep.RegionHeld
import Derived.StillTail
import Derived.Maps.OwnSet
import Derived.StringKeys
set_option linter.unusedVariables false
set_option linter.unusedSimpArgs false
set_option maxRecDepth 100000
set_option maxHeartbeats 16000000
namespace Go.Proofs.YtgoojkiccdjplaaGreatDoor
open Go.RowKit Go.Sort Go.Lib
variable {X : Nat → Prop}
theorem heap2a (w:World) (a b:Obj):((w.alloc a).alloc b).heap[w.heap.size]? = some a:=(Below.heap_alloc _ _ _ (by simp)).trans (heap_alloc_new w a)
theorem heap2b (w:World) (a b:Obj):((w.alloc a).alloc b).heap[w.heap.size+1]? = some b:=by
 have:=heap_alloc_new (w.alloc a) b
 rwa [World.size_alloc] at this
def WfI (xs:List Int):Prop:=∀x∈xs,-9223372036854775808≤x∧x≤9223372036854775807
theorem clone_any (a : Option Addr) (n c : Nat) (xs : List Int) (w : World) (hx : RdI w a n xs) (hn : n < 17592186044416) :
    Calls Tryz.prog 119 #[.slice a n c] w fun e w' => ∃ a' c', e = .returned (.slice a' n c') ∧ w'.ownsRow w.heap.size 3 1 (.slice a' n c') n (xs.map (Value.int .i64)) ∧ Below w.heap.size w w' := by
  by_cases h0 : 0 < n
  · obtain ⟨b, o, rfl, _, hc⟩ := hx.cells h0
    refine (Tryz.slices_Clone_int b o n c xs w (by rw [hx.len]; exact Nat.le_refl _) (by omega) (fun j hj => hc j (by rw [← hx.len]; exact hj))).mono ?_
    rintro e w' ⟨v', he, ho, _, hb⟩
    rw [show xs.take n = xs by rw [← hx.len, List.take_length]] at ho
    obtain ⟨a', c', rfl, _⟩ := (OwnC.of ho).slice
    exact ⟨a', c', he, ho, hb⟩
  · obtain rfl : n = 0 := by omega
    have : xs = [] := List.eq_nil_of_length_eq_zero hx.len
    subst this
    cases a with
    | none =>
      refine (Tryz.slices_Clone_int_nil 0 c w).mono ?_
      rintro e w' ⟨he, rfl⟩
      exact ⟨none, 0, he, World.ownsRow_nil _ _ _ _, Below.refl _ _⟩
    | some a =>
      refine (Tryz.slices_Clone_int_zero a c w).mono ?_
      rintro e w' ⟨v', he, ho, _, hb⟩
      obtain ⟨a', c', rfl, _⟩ := (OwnC.of ho).slice
      exact ⟨a', c', he, ho, hb⟩
theorem own_intB {w:World} {base n:Nat} {a:Option Addr} {m c:Nat} {xs:List Int} (h:w.ownsRow base 3 1 (.slice a m c) n (xs.map (Value.int .i64))) (hwf:WfI xs) (hX:∀k,X k→k<base):m=n∧SlR Rep.int (IntX X w) w a n xs∧m≤c∧c≤maxLen:=by
 obtain ⟨h1,h2,_⟩:=RdI.own h hwf
 obtain ⟨a',c',hv,h4,h5⟩:=(OwnC.of h).slice
 cases hv
 refine⟨h1,SlR.ofI h2 fun x hn hx=>?_,h4,h5⟩
 subst hx
 exact⟨fun hxx=>by have:=hX _ hxx;have:=((OwnC.of h).lt _ rfl).1;omega,(OwnC.of h).ty _ rfl⟩
theorem intB_set {w : World} {p : Addr} {v : Value} {k : Nat} : IntX X (w.setCell p v) k ↔ IntX X w k := by
  refine and_congr_right fun _ => ?_
  unfold World.setCell
  rw [Array.getElem?_modify]
  by_cases h : p.block = k
  · subst h
    rw [if_pos rfl]
    cases hh : w.heap[p.block]? with
    | none => simp
    | some o =>
      cases o with
      | cells cs e f =>
        simp only [Option.map_some]
        split <;> simp_all
      | _ => simp only [Option.map_some]
  · rw [if_neg h]
theorem SlR.intSet {w:World} {p:Addr} {v:Value} {a:Option Addr} {n:Nat} {xs:List Int} (h:SlR Rep.int (IntX X w) w a n xs) (hp:¬IntX X w p.block):SlR Rep.int (IntX X (w.setCell p v)) (w.setCell p v) a n xs:=
 (h.keep (fun b _ hb=>Below.heap_setCell w p v b (fun e=>hp (by rw [←e];exact hb))) (by simp [World.setCell])).mono fun b _ hb=>intB_set.2 hb
abbrev funV (nm:ByteArray) (a:Option Addr) (n c:Nat) (r:Int):Value:=.agg #[.string nm,.slice a n c,.int .i64 r]
def OwnPost (X:Nat→Prop) (nm:ByteArray) (xs:List Int) (r:Int) (w:World) (e:Ending) (w':World):Prop:=
 ∃a c,e = .returned (funV nm a xs.length c r)∧SlR Rep.int (IntX X w') w' a xs.length xs∧xs.length≤c∧c≤maxLen∧Below w.heap.size w w'
theorem ownF_any (nm:ByteArray) (a:Option Addr) (n c:Nat) (r:Int) (xs:List Int) (w:World) (hx:RdI w a n xs) (hn:n<17592186044416) (hX:∀k,X k→k<w.heap.size) :
  Calls Tryz.prog 111 #[funV nm a n c r] w fun e w'=>OwnPost X nm xs r w e w':=by
 have hx':=hid hx
 have lx:=hid hx.len
 have wx:=hid (show WfI xs from hx.wf)
 clear hx
 go_enter Tryz.func111,Tryz.ntmps111
 go_wp2_with fail
 have hb0:Below w.heap.size w ((w.alloc (.cells #[.string nm,.slice a n c,.int .i64 r] 114)).alloc (.cells #[.string ByteArray.empty,.slice none 0 0,.int .i64 0] 114)):=((Below.refl _ _).alloc (Nat.le_refl _) _).alloc (by simp) _
 have hb0':=hid hb0
 refine(clone_any a n c xs _ (hx'.out.below hb0 (Nat.le_refl _)) hn).mono ?_
 rintro e w1 ⟨a',c',rfl,ho,hb1⟩
 obtain ⟨_,hs,hc1,hc2⟩:=own_intB (X:=X) ho wx.out (fun k hk=>by have:=hX k hk;simp;omega)
 have hs':=hid hs
 have hb1':=hid hb1
 have hc1':=hid hc1
 have hc2':=hid hc2
 have hz:=hb1.size
 simp only [World.size_alloc] at hz
 have H1:=(hb1.block w.heap.size (by simp;omega)).trans (heap2a w _ _)
 have H2:=(hb1.block (w.heap.size+1) (by simp)).trans (heap2b w _ _)
 have k10:w1.cell? ⟨w.heap.size,0,none⟩=some (.string nm):=cell_p H1 0
 have k11:w1.cell? ⟨w.heap.size,1,none⟩=some (.slice a n c):=cell_p H1 1
 have k12:w1.cell? ⟨w.heap.size,2,none⟩=some (.int .i64 r):=cell_p H1 2
 have k20:w1.cell? ⟨w.heap.size+1,0,none⟩=some (.string ByteArray.empty):=cell_p H2 0
 have k21:w1.cell? ⟨w.heap.size+1,1,none⟩=some (.slice none 0 0):=cell_p H2 1
 have k22:w1.cell? ⟨w.heap.size+1,2,none⟩=some (.int .i64 0):=cell_p H2 2
 have f11:=frz_p H1 1
 have f20:=frz_p H2 0
 have f21:=frz_p H2 1
 have f22:=frz_p H2 2
 have hN1:=hid (show ¬IntX X w1 w.heap.size from fun h=>ty_ne (by decide) h.2 ⟨_,_,H1⟩)
 have hN2:=hid (show ¬IntX X w1 (w.heap.size+1) from fun h=>ty_ne (by decide) h.2 ⟨_,_,H2⟩)
 clear ho hb1 hs hc1 hc2 hb0 H1 H2
 go_wp2
 refine bodyPost_ret (v:=funV nm a' n c' r) (by simp [results,Tryz.results111,go_sem, *]) rfl ?_
 refine⟨a',c',by rw [lx.out],?_,by rw [lx.out];exact hc1'.out,hc2'.out,?_⟩
 ·rw [lx.out]
  exact(((hs'.out.intSet hN1.out).intSet (fun h=>hN2.out (intB_set.1 h))).intSet (fun h=>hN2.out (intB_set.1 (intB_set.1 h)))).intSet (fun h=>hN2.out (intB_set.1 (intB_set.1 (intB_set.1 h))))
 ·have b1:Below w.heap.size w w1:=hb0'.out.trans (hb1'.out.mono (by simp;omega))
  exact(((b1.setCell (Nat.le_refl _) _).setCell (by simp) _).setCell (by simp) _).setCell (by simp) _
def eqS (a b:ByteArray):Bool:=a.toList == b.toList
theorem isName_any (nm s:ByteArray) (a:Option Addr) (n c x:Nat) (r:Int) (w:World) (hx:w.cell? ⟨x,0,none⟩=some (.string s)) :
  Calls Tryz.prog 190 #[funV nm a n c r,.pointer (some ⟨x,0,none⟩)] w fun e w'=>e = .returned (.bool (eqS nm s))∧Below w.heap.size w w':=by
 have hd:=@hid (eqS nm s=(nm.toList == s.toList)) rfl
 have hlt:=World.block_lt_of_cell? w _ hx
 go_enter Tryz.func190,Tryz.ntmps190
 go_wp2
 go_ret
 exact⟨ret_bool hd.out.symm,(Below.refl _ _).alloc (Nat.le_refl _) _⟩
def idxP {α:Type} (p:α→Bool):List α→Nat→Int
 | [],_=>-1
 | x :: xs,i=>if p x then i else idxP p xs (i+1)
theorem idxP_skip {α : Type} {p : α → Bool} : ∀ {xs : List α} {k i : Nat}, (∀ j x, j < k → xs[j]? = some x → p x = false) → k ≤ xs.length → idxP p xs i = idxP p (xs.drop k) (i + k)
  | xs, 0, i, _, _ => by simp
  | [], k + 1, i, _, hk => by simp at hk
  | x :: xs, k + 1, i, h, hk => by
    have h0 := h 0 x (by omega) rfl
    rw [List.drop_succ_cons, ← Nat.add_assoc, Nat.add_right_comm, ← idxP_skip (xs := xs) (k := k) (i := i + 1) (fun j y hj hy => h (j + 1) y (by omega) (by simpa using hy)) (by simpa using hk)]
    show (if p x = true then (i : Int) else idxP p xs (i + 1)) = _
    rw [h0]; rfl
theorem idxP_hit {α:Type} {p:α→Bool} {xs:List α} {k:Nat} {x:α} (h:∀j x,j<k→xs[j]? = some x→p x=false) (hk:xs[k]? = some x) (hx:p x=true):idxP p xs 0=k:=by
 have hl:=(List.getElem?_eq_some_iff.1 hk).1
 rw [idxP_skip h (by omega),Nat.zero_add,List.drop_eq_getElem_cons hl]
 have:xs[k]=x:=(List.getElem?_eq_some_iff.1 hk).2
 unfold idxP
 rw [this,if_pos hx]
theorem idxP_miss {α:Type} {p:α→Bool} {xs:List α} (h:∀j x,j<xs.length→xs[j]? = some x→p x=false):idxP p xs 0 = -1:=by
 rw [idxP_skip h (Nat.le_refl _),List.drop_length];rfl
theorem idxP_find {α : Type} {p : α → Bool} : ∀ (xs : List α) (i : Nat), match xs.find? p with
    | none => idxP p xs i = -1
    | some x => ∃ k : Nat, idxP p xs i = ((i + k : Nat) : Int) ∧ xs[k]? = some x
  | [], i => rfl
  | x :: xs, i => by
    rw [List.find?_cons]
    cases hx : p x with
    | true => exact ⟨0, by unfold idxP; rw [if_pos hx]; rfl, rfl⟩
    | false =>
      have := idxP_find (p := p) xs (i + 1)
      have e : idxP p (x :: xs) i = idxP p xs (i + 1) := by show (if p x = true then _ else _) = _; rw [hx]; rfl
      cases hf : xs.find? p with
      | none => rw [hf] at this; dsimp only at this ⊢; rw [e]; exact this
      | some y =>
        rw [hf] at this
        obtain ⟨k, h1, h2⟩ := this
        exact ⟨k + 1, by rw [e, h1]; congr 1; omega, by simpa using h2⟩
theorem SlR.funAt {S:Nat→Prop} {w:World} {a:Option Addr} {n:Nat} {fs:List FunD} (h:SlR repF S w a n fs) {k:Nat} {f:FunD} (hf:fs[k]? = some f) :
  ∃b o a' c',a=some ⟨b,o,none⟩∧w.cell? ⟨b,o+k * 3,none⟩=some (.string f.name)∧w.cell? ⟨b,o+k * 3+1,none⟩=some (.slice a' f.args.length c')∧w.cell? ⟨b,o+k * 3+2,none⟩=some (.int .i64 f.res)∧SlR Rep.int S w a' f.args.length f.args∧okI f.res∧f.args.length≤c'∧c'≤maxLen:=by
 obtain ⟨b,o,cs,ha,_,hr,hc⟩:=h.at hf
 obtain ⟨a',n',c',rfl,h1,h2,h3,h4⟩:=repF_rd.1 hr
 obtain rfl:n'=f.args.length:=h3.1.symm
 rw [repF_k] at hc
 exact⟨b,o,a',c',ha,hc 0 _ rfl,hc 1 _ rfl,hc 2 _ rfl,h3,h4,h1,h2⟩
theorem indexFunc_any {S:Nat→Prop} (a:Option Addr) (n c x:Nat) (fs:List FunD) (s:ByteArray) (w:World) (h:SlR repF S w a n fs) (hn:n<1099511627776) (hx:w.cell? ⟨x,0,none⟩=some (.string s)) :
  Calls Tryz.prog 189 #[.slice a n c,.func (.func 190) #[] #[.pointer (some ⟨x,0,none⟩)]] w fun e w'=>
   e = .returned (.int .i64 (idxP (fun f:FunD=>eqS f.name s) fs 0))∧Below w.heap.size w w':=by
 have h':=hid h
 have lx:=hid h.1
 have hx':=hid hx
 have hlt:=World.block_lt_of_cell? w _ hx
 clear h hx
 go_enter Tryz.func189,Tryz.ntmps189
 go_wp2
 go_loopw [4,5,8] (fun _ _ i wr=>∃k:Nat,k≤n∧i = .int .i64 k∧Hid (∀j f,j<k→fs[j]? = some f→eqS f.name s=false)∧Hid (Below w.heap.size w wr)) (fun _ _ i _=>n - (intOf i).toNat)
 case atStart=>exact⟨0,Nat.zero_le _,rfl,fun j f hj=>absurd hj (Nat.not_lt_zero _),Below.refl _ _⟩
 case round=>
  obtain ⟨k,hk,rfl,hne,hB⟩:=hrel
  by_cases hlt2:k<n
  ·have hkx:k<fs.length:=by rw [lx.out];exact hlt2
   have hf:=List.getElem?_eq_getElem hkx
   obtain ⟨b,o,a',c',rfl,k0,k1,k2,_⟩:=(h'.out.below hB.out (Nat.le_refl _)).funAt hf
   have hxr:wr.cell? ⟨x,0,none⟩=some (.string s):=by rw [hB.out.cell (p:=⟨x,0,none⟩) hlt];exact hx'.out
   have hcl:=hid (isName_any fs[k].name s a' fs[k].args.length c' x fs[k].res wr hxr)
   have hf':=hid hf
   clear hf hxr
   cases he:eqS fs[k].name s
   case true=>
    have hv:=hid (idxP_hit (p:=fun f:FunD=>eqS f.name s) (fun j f hj hf=>hne.out j f hj hf) hf'.out he)
    rw [he] at hcl
    generalize fs[k]=f at *
    clear he
    go_wp2_with fail
    refine hcl.out.mono ?_;rintro e w1 ⟨rfl,hb⟩
    have hb':=hid (hB.out.trans (hb.mono hB.out.size))
    clear hb
    go_wp2
    go_ret
    exact⟨ret_int hv.out.symm,hb'.out⟩
   case false=>
    have hs:=@hid (∀j f,j<k+1→fs[j]? = some f→eqS f.name s=false) (fun j f hj hf=>by
     by_cases hjk:j<k
     ·exact hne.out j f hjk hf
     ·obtain rfl:j=k:=by omega
      rw [hf'.out] at hf
      cases hf
      exact he)
    rw [he] at hcl
    generalize fs[k]=f at *
    clear he
    go_wp2_with fail
    refine hcl.out.mono ?_;rintro e w1 ⟨rfl,hb⟩
    have hb':=hid (hB.out.trans (hb.mono hB.out.size))
    clear hb
    go_wp2
    go_roundw
    case rel=>exact⟨k+1,by omega,by go_num,hs.out,hb'.out⟩
    case measure=>simp [intOf];omega
  ·have hv:=hid (idxP_miss (p:=fun f:FunD=>eqS f.name s) (xs:=fs) (fun j f hj hf=>hne.out j f (by have:=lx.out;omega) hf))
   go_wp2
   go_ret
   exact⟨ret_int hv.out.symm,hB.out⟩
variable {X : Nat → Prop}
def findF (T:TabD) (s:ByteArray):Option FunD:=T.funs.find? fun f=>eqS f.name s
def noFun:FunD:=⟨ByteArray.empty,[],0⟩
def lookF (T:TabD) (s:ByteArray):FunD:=(findF T s).getD noFun
structure Small (T:TabD):Prop where
 s:T.sorts.length<1099511627776
 f:T.funs.length<1099511627776
 m:T.marks.length<1099511627776
 a:∀f∈T.funs,f.args.length<1099511627776
def TellF (X:Nat→Prop) (f:FunD) (ok:Bool) (w:World) (e:Ending) (w':World):Prop:=
 ∃a c,e = .returned (.tuple #[funV f.name a f.args.length c f.res,.bool ok])∧SlR Rep.int (IntX X w') w' a f.args.length f.args∧f.args.length≤c∧c≤maxLen∧Below w.heap.size w w'
theorem find_any (B p : Nat) (T : TabD) (s : ByteArray) (w : World) (h : TabX X B p T w) (hs : Small T) :
    Calls Tryz.prog 156 #[.pointer (some ⟨p, 0, none⟩), .string s] w fun e w' => TellF X (lookF T s) (findF T s).isSome w e w' := by
  have h' := hid h
  have hs' := hid hs
  have hplt := h.plt
  have hfl := hs.f
  have hd := @hid (findF T s = T.funs.find? fun f => eqS f.name s) rfl
  have hB0 : Below w.heap.size w ((w.alloc (.cells #[.string s] 9)).alloc (.cells #[.string ByteArray.empty, .slice none 0 0, .int .i64 0] 114)) := ((Below.refl _ _).alloc (Nat.le_refl _) _).alloc (by simp) _
  have hB0' := hid hB0
  have h2 := h.all hB0
  have hb1 := (Below.heap_alloc _ (.cells #[.string ByteArray.empty, .slice none 0 0, .int .i64 0] 114) _ (by simp)).trans (heap_alloc_new w (.cells #[.string s] 9))
  have hx : ((w.alloc (.cells #[.string s] 9)).alloc (.cells #[.string ByteArray.empty, .slice none 0 0, .int .i64 0] 114)).cell? ⟨w.heap.size, 0, none⟩ = some (.string s) := cell_p hb1 0
  obtain ⟨a1, c1, a2, c2, a3, c3, hblk, _, o2, _⟩ := h2.look
  have k1 := cell_p hblk 1
  simp only [List.getElem?_toArray, List.getElem?_cons_succ, List.getElem?_cons_zero] at k1
  have hrd := o2.read (S' := fun _ => True) (fun _ _ _ => trivial) (fun _ _ => trivial)
  have hrd' := hid hrd
  have hi := hid (indexFunc_any a2 T.funs.length c2 w.heap.size T.funs s _ hrd hfl hx)
  have hkw : w.cell? ⟨p, 1, none⟩ = some (.slice a2 T.funs.length c2) := by rw [← hB0.cell (p := ⟨p, 1, none⟩) hplt]; exact k1
  clear h h2 hB0 hb1 hx hblk o2 hrd k1
  have hidx := idxP_find (p := fun f : FunD => eqS f.name s) T.funs 0
  rw [← hd.out] at hidx
  cases hf : findF T s with
  | none =>
    rw [hf] at hidx
    dsimp only at hidx
    rw [hidx] at hi
    have hl := @hid (lookF T s = noFun) (by unfold lookF; rw [hf]; rfl)
    clear hidx hf hd
    go_enter Tryz.func156, Tryz.ntmps156
    go_wp2_with fail
    refine hi.out.mono ?_; rintro e w1 ⟨rfl, hb⟩
    have hz := hb.size
    simp only [World.size_alloc] at hz
    have H2 := (hb.block (w.heap.size + 1) (by simp)).trans (heap2b w _ _)
    have k20 : w1.cell? ⟨w.heap.size + 1, 0, none⟩ = some (.string ByteArray.empty) := cell_p H2 0
    have k21 : w1.cell? ⟨w.heap.size + 1, 1, none⟩ = some (.slice none 0 0) := cell_p H2 1
    have k22 : w1.cell? ⟨w.heap.size + 1, 2, none⟩ = some (.int .i64 0) := cell_p H2 2
    have f20 := frz_p H2 0
    have f21 := frz_p H2 1
    have f22 := frz_p H2 2
    have hb' := hid (hB0'.out.trans (hb.mono (by simp; omega)))
    clear hb H2 hi
    go_wp2
    refine bodyPost_ret (v := .tuple #[funV ⟨#[]⟩ none 0 0 0, .bool false]) (by simp [results, Tryz.results156, go_sem, *]) rfl ?_
    refine ⟨none, 0, by rw [hl.out]; rfl, by rw [hl.out]; exact SlR.nil _ _ _ _, by rw [hl.out]; exact Nat.le_refl _, Nat.zero_le _, ?_⟩
    exact ((hb'.out.setCell (by simp) _).setCell (by simp) _).setCell (by simp) _
  | some f =>
    rw [hf] at hidx
    dsimp only at hidx
    obtain ⟨k, hk1, hk2⟩ := hidx
    rw [Nat.zero_add] at hk1
    rw [hk1] at hi
    have hkl := (List.getElem?_eq_some_iff.1 hk2).1
    have hl := @hid (lookF T s = f) (by unfold lookF; rw [hf]; rfl)
    have hfa := hs'.out.a f (List.mem_of_getElem? hk2)
    have hk2' := hid hk2
    clear hk1 hf hd hk2
    go_enter Tryz.func156, Tryz.ntmps156
    go_wp2_with fail
    refine hi.out.mono ?_; rintro e w1 ⟨rfl, hb⟩
    have hz := hb.size
    simp only [World.size_alloc] at hz
    have H2 := (hb.block (w.heap.size + 1) (by simp)).trans (heap2b w _ _)
    have H2' := hid H2
    have hb0 := hB0'.out.trans (hb.mono (by simp; omega))
    have hb' := hid hb0
    have kp : w1.cell? ⟨p, 1, none⟩ = some (.slice a2 T.funs.length c2) := by rw [hb0.cell (p := ⟨p, 1, none⟩) hplt]; exact hkw
    obtain ⟨b, o, a', c', rfl, q0, q1, q2, q3, _⟩ := (hrd'.out.below hb (Nat.le_refl _)).funAt hk2'.out
    have hown := hid (ownF_any f.name a' f.args.length c' f.res f.args w1 q3.toI (by omega) (fun k hk => Nat.lt_of_lt_of_le (h'.out.xlt k hk) hb0.size))
    clear hb hi hb0 q3 H2 hkw
    go_wp2_with fail
    refine hown.out.mono ?_
    rintro e w2 ⟨a4, c4, rfl, hs4, hc4, hc5, hb4⟩
    have H3 := (hb4.block (w.heap.size + 1) (by omega)).trans H2'.out
    have k20 : w2.cell? ⟨w.heap.size + 1, 0, none⟩ = some (.string ByteArray.empty) := cell_p H3 0
    have k21 : w2.cell? ⟨w.heap.size + 1, 1, none⟩ = some (.slice none 0 0) := cell_p H3 1
    have k22 : w2.cell? ⟨w.heap.size + 1, 2, none⟩ = some (.int .i64 0) := cell_p H3 2
    have f20 := frz_p H3 0
    have f21 := frz_p H3 1
    have f22 := frz_p H3 2
    have hN := hid (show ¬ IntX X w2 (w.heap.size + 1) from fun h => ty_ne (by decide) h.2 ⟨_, _, H3⟩)
    have hs4' := hid hs4
    have hc4' := hid hc4
    have hc5' := hid hc5
    have hb4' := hid (hb'.out.trans (hb4.mono hb'.out.size))
    clear hb4 H3 hs4 hc4 hc5 kp q0 q1 q2 hown
    go_wp2
    refine bodyPost_ret (v := .tuple #[funV f.name a4 f.args.length c4 f.res, .bool true]) (by simp [results, Tryz.results156, go_sem, *]) rfl ?_
    refine ⟨a4, c4, by rw [hl.out]; rfl, by rw [hl.out]; exact ((hs4'.out.intSet hN.out).intSet (fun h => hN.out (intB_set.1 h))).intSet (fun h => hN.out (intB_set.1 (intB_set.1 h))), by rw [hl.out]; exact hc4'.out, hc5'.out, ?_⟩
    exact ((hb4'.out.setCell (by simp) _).setCell (by simp) _).setCell (by simp) _
def mayFunB (T:TabD) (s:ByteArray):Bool:=mayB s && !(findF T s).isSome
theorem mayFun_any (B p:Nat) (T:TabD) (s:ByteArray) (w:World) (h:TabX X B p T w) (hs:Small T) (hE:Env w) :
  Calls Tryz.prog 109 #[.pointer (some ⟨p,0,none⟩),.string s] w fun e w'=>e = .returned (.bool (mayFunB T s))∧Below w.heap.size w w':=by
 have hc:=hid (find_any B p T s w h hs)
 have hd:=@hid (mayFunB T s=(mayB s && !(findF T s).isSome)) rfl
 have hE':=hid hE
 generalize lookF T s=f at *
 generalize (findF T s).isSome=ok at *
 clear h hs hE
 go_enter Tryz.func109,Tryz.ntmps109
 go_wp2_with fail
 refine hc.out.mono ?_
 rintro e w1 ⟨a,c,rfl,_,_,_,hb⟩
 have hb':=hid hb
 have hB1:=hb.trans (((Below.refl w1.heap.size w1).alloc (Nat.le_refl _) (.cells #[.string f.name,.slice a f.args.length c,.int .i64 f.res] 114)).mono hb.size)
 have hE1:=hid (hE'.out.all hB1)
 have hB1':=hid hB1
 clear hb hB1
 have hm:=hid (may_any s _ hE1.out)
 cases hmy:mayB s
 case false=>
  have hv:=@hid (false=mayFunB T s) (by rw [hd.out,hmy];rfl)
  rw [hmy] at hm
  clear hmy
  go_wp2_with fail
  refine hm.out.mono ?_;rintro e w2 ⟨rfl,hb2⟩
  have hb2':=hid (hB1'.out.trans (hb2.mono hB1'.out.size))
  clear hb2
  go_wp2
  go_ret
  exact⟨ret_bool hv.out,hb2'.out⟩
 case true=>
  have hv:=@hid ((!ok)=mayFunB T s) (by rw [hd.out,hmy];rfl)
  rw [hmy] at hm
  clear hmy
  go_wp2_with fail
  refine hm.out.mono ?_;rintro e w2 ⟨rfl,hb2⟩
  have hb2':=hid (hB1'.out.trans (hb2.mono hB1'.out.size))
  clear hb2
  go_wp2
  go_ret
  exact⟨ret_bool hv.out,hb2'.out⟩
def findSort (T:TabD) (s:ByteArray):Int × Bool:=
 if s.toList == [66,111,111,108] then(0,true) else if s.toList == [82,101,97,108] then(1,true) else if Lib.idxOfS T.sorts s<0 then(0,false) else(2+Lib.idxOfS T.sorts s,true)
variable {X : Nat → Prop}
theorem loc_alloc {v v':Value} {w:World} {o:Obj} (h:v'.ownBlock=v.ownBlock∨∀k,v'.ownBlock=some k→(w.alloc o).heap.size≤k):v'.ownBlock=v.ownBlock∨∀k,v'.ownBlock=some k→w.heap.size≤k:=
 h.imp id fun hh k hk=>by have:=hh k hk;rw [World.size_alloc] at this;omega
theorem cell_grown {w W:World} {row:Option Nat} {p j:Nat} (h:w.grownBy W row) (hp:p<w.heap.size) (hr:row≠some p):W.cell? ⟨p,j,none⟩=w.cell? ⟨p,j,none⟩:=World.cell?_of_block (a:=⟨p,j,none⟩) (h.block p hp (Ne.symm hr))
theorem frozen_grown {w W:World} {row:Option Nat} {p j:Nat} (h:w.grownBy W row) (hp:p<w.heap.size) (hr:row≠some p):W.frozen? ⟨p,j,none⟩=w.frozen? ⟨p,j,none⟩:=World.frozen?_of_block (a:=⟨p,j,none⟩) (h.block p hp (Ne.symm hr))
theorem OwnC.drew {w:World} {base:Nat} {e:TypeId} {size n:Nat} {v:Value} {xs:List Value} (h:OwnC w base e size v n xs):OwnC w.drew base e size v n xs:=h
variable {X : Nat → Prop}
def argBad (n:Nat) (s:Int):Bool:=s == 0 || !isB n s
def errFun (T:TabD) (f:FunD):Int:=
 if !mayFunB T f.name then 1 else if decide (64<f.args.length) then 1 else if !isB T.sorts.length f.res then 1 else if f.args.any (argBad T.sorts.length) then 1 else if decide (1000≤T.funs.length) then 4 else 0
def addFun (T:TabD) (f:FunD):TabD:=if errFun T f=0 then { T with funs:=T.funs ++ [f] } else T
def FunPost (X:Nat→Prop) (B p:Nat) (T:TabD) (f:FunD) (w:World) (e:Ending) (w':World):Prop:=
 e = .returned (.int .i64 (errFun T f))∧TabX X B p (addFun T f) w'∧PStep p w w'
theorem FunPost.no {B p:Nat} {T:TabD} {f:FunD} {w w':World} {z:Int} (h:TabX X B p T w) (hb:Below w.heap.size w w') (hz:errFun T f=z) (h0:z≠0):FunPost X B p T f w (.returned (.int .i64 z)) w':=by
 refine⟨by rw [hz],?_,.of_below h.plt hb⟩
 unfold addFun
 rw [hz,if_neg h0]
 exact h.all hb
theorem OwnR.allI {B:Nat} {w w':World} {v:Value} {fs:List FunD} (h:OwnR repF (IntX X w) w B 114 v fs) (hb:Below w.heap.size w w'):OwnR repF (IntX X w') w' B 114 v fs:=
 h.keepI (fun k hk=>hb.block k hk.lt) (fun k hk=>hb.block k (h.lt k hk).2) hb.size
theorem below_drewl {B:Nat} {w w':World} (h:Below B w.drew w'):Below B w w':=⟨h.os,h.tape,h.output,h.size,h.block⟩
theorem triple_new (x y z:Value) (w:World) (e:TypeId):∀j u,[x,y,z][j]? = some u→(w.alloc (.cells #[x,y,z] e)).cell? ⟨w.heap.size,j,none⟩=some u:=by
 intro j u hu
 rw [World.cell?_alloc_new]
 simpa using hu
theorem triple_one {s:ByteArray} {a:Option Addr} {n c:Nat} {y:Int}:∀u ∈ [Value.string s,.slice a n c,.int .i64 y],u.oneCell'=true:=by intro u hu;simp at hu;rcases hu with rfl | rfl | rfl <;> rfl
theorem any_take_no {xs:List Int} {p:Int→Bool} (h:∀j,j<xs.length→p (nth xs j)=false):xs.any p=false:=by
 rw [List.any_eq_false]
 intro x hx
 obtain ⟨j,hj,rfl⟩:=List.getElem_of_mem hx
 have:=h j hj
 rw [nth_eq hj] at this
 simp [this]
theorem any_at {xs:List Int} {p:Int→Bool} {j:Nat} (hj:j<xs.length) (h:p (nth xs j)=true):xs.any p=true:=List.any_eq_true.2 ⟨_,nth_mem hj,h⟩
theorem fun_any (B p : Nat) (T : TabD) (f : FunD) (a : Option Addr) (c : Nat) (w : World) (h : TabX X B p T w) (hs : Small T) (hE : Env w) (hx : RdI w a f.args.length f.args) (hn : f.args.length < 1099511627776) :
    Calls Tryz.prog 60 #[.pointer (some ⟨p, 0, none⟩), funV f.name a f.args.length c f.res] w fun e w' => FunPost X B p T f w e w' := by
  have h' := hid h
  have hs' := hid hs
  have hx' := hid hx
  have hd := @hid (errFun T f = if !mayFunB T f.name then 1 else if decide (64 < f.args.length) then 1 else if !isB T.sorts.length f.res then 1 else if f.args.any (argBad T.sorts.length) then 1 else if decide (1000 ≤ T.funs.length) then 4 else 0) rfl
  have hB0 : Below w.heap.size w (w.alloc (.cells #[.string f.name, .slice a f.args.length c, .int .i64 f.res] 114)) := (Below.refl _ _).alloc (Nat.le_refl _) _
  have hB0' := hid hB0
  have hm := hid (mayFun_any B p T f.name _ (h.all hB0) hs (hE.all hB0))
  have hplt := h.plt
  have hsl := hs.s
  have hfl := hs.f
  clear h hs hx hE hB0
  obtain ⟨nm, args, r⟩ := f
  dsimp only at *
  cases hmy : mayFunB T nm
  case false =>
    have hv := @hid (errFun T ⟨nm, args, r⟩ = 1) (by rw [hd.out, hmy]; rfl)
    rw [hmy] at hm
    clear hmy
    go_enter Tryz.func60, Tryz.ntmps60
    go_wp2_with fail
    refine hm.out.mono ?_; rintro e w1 ⟨rfl, hb⟩
    have hb' := hid (hB0'.out.trans (hb.mono (by simp)))
    clear hb
    go_wp2
    go_ret
    exact FunPost.no h'.out hb'.out hv.out (by decide)
  case true =>
  rw [hmy] at hm
  by_cases h64 : 64 < args.length
  · have hv := @hid (errFun T ⟨nm, args, r⟩ = 1) (by rw [hd.out, hmy]; simp [h64])
    have h64i : (64 : Int) < args.length := by omega
    clear hmy
    go_enter Tryz.func60, Tryz.ntmps60
    go_wp2_with fail
    refine hm.out.mono ?_; rintro e w1 ⟨rfl, hb⟩
    have hz := hb.size
    simp only [World.size_alloc] at hz
    have H1 := (hb.block w.heap.size (by simp)).trans (heap_alloc_new w _)
    have k0 := cell_p H1 0
    have k1 : w1.cell? ⟨w.heap.size, 1, none⟩ = some (.slice a args.length c) := cell_p H1 1
    have hb' := hid (hB0'.out.trans (hb.mono (by simp)))
    clear hb H1 k0
    go_wp2
    go_ret
    exact FunPost.no h'.out hb'.out hv.out (by decide)
  cases hir : isB T.sorts.length r
  case false =>
    have hv := @hid (errFun T ⟨nm, args, r⟩ = 1) (by rw [hd.out, hmy, hir]; simp)
    clear hmy
    go_enter Tryz.func60, Tryz.ntmps60
    go_wp2_with fail
    refine hm.out.mono ?_; rintro e w1 ⟨rfl, hb⟩
    have hz := hb.size
    simp only [World.size_alloc] at hz
    have H1 := (hb.block w.heap.size (by simp)).trans (heap_alloc_new w _)
    have k1 : w1.cell? ⟨w.heap.size, 1, none⟩ = some (.slice a args.length c) := cell_p H1 1
    have k2 : w1.cell? ⟨w.heap.size, 2, none⟩ = some (.int .i64 r) := cell_p H1 2
    have hb' := hid (hB0'.out.trans (hb.mono (by simp)))
    have his := hid (is_any B p T r w1 (h'.out.all hb'.out) hsl)
    rw [hir] at his
    clear hb H1 hir
    go_wp2_with fail
    refine his.out.mono ?_; rintro e w' ⟨rfl, rfl⟩
    go_wp2
    go_ret
    exact FunPost.no h'.out hb'.out hv.out (by decide)
  case true =>
  have hd2 := @hid (errFun T ⟨nm, args, r⟩ = if args.any (argBad T.sorts.length) then 1 else if decide (1000 ≤ T.funs.length) then 4 else 0) (by rw [hd.out, hmy, hir]; simp [h64])
  have hrb : okI r := by unfold isB at hir; simp at hir; unfold okI; omega
  have hrb' := hid hrb
  clear hmy hd hrb
  obtain ⟨i0, hi, hz0, hz1, hz2⟩ := info_parts info_fun
  go_enter Tryz.func60, Tryz.ntmps60
  go_wp2_with fail
  refine hm.out.mono ?_; rintro e w1 ⟨rfl, hb⟩
  have hz := hb.size
  simp only [World.size_alloc] at hz
  have H1 := (hb.block w.heap.size (by simp)).trans (heap_alloc_new w _)
  have k0 : w1.cell? ⟨w.heap.size, 0, none⟩ = some (.string nm) := cell_p H1 0
  have k1 : w1.cell? ⟨w.heap.size, 1, none⟩ = some (.slice a args.length c) := cell_p H1 1
  have k2 : w1.cell? ⟨w.heap.size, 2, none⟩ = some (.int .i64 r) := cell_p H1 2
  have hb' := hid (hB0'.out.trans (hb.mono (by simp)))
  have t1 := h'.out.all hb'.out
  have T1 := hid t1
  have his := hid (is_any B p T r w1 t1 hsl)
  rw [hir] at his
  have hia := hid (fun s => is_any B p T s w1 T1.out hsl)
  obtain ⟨a1, c1, a2, c2, a3, c3, hblk, o1, o2, o3⟩ := t1.look
  have q1 : w1.cell? ⟨p, 1, none⟩ = some (.slice a2 T.funs.length c2) := cell_p hblk 1
  have g1 : w1.frozen? ⟨p, 1, none⟩ = false := frz_p hblk 1
  have hblk' := hid hblk
  have O2 := hid o2
  have X1 := hid (hx'.out.below hb'.out (Nat.le_refl _))
  have hp2 := hid (show Value.ownBlock (.slice a2 T.funs.length c2) ≠ some p from fun e => ty_ne (by decide) (o2.ty p e) ⟨_, _, hblk⟩)
  clear hb H1 hir t1 hblk o1 o2 o3 hm hB0'
  go_wp2_with fail
  refine his.out.mono ?_; rintro e w' ⟨rfl, rfl⟩
  go_wp2
  go_loopw [4, 6, 28] (fun _ _ i wr => ∃ k : Nat, k ≤ args.length ∧ i = .int .i64 k ∧ wr = w1 ∧ Hid (∀ j, j < k → argBad T.sorts.length (nth args j) = false)) (fun _ _ i _ => args.length - (intOf i).toNat)
  case atStart => exact ⟨0, Nat.zero_le _, rfl, rfl, fun j hj => absurd hj (Nat.not_lt_zero _)⟩
  case round =>
    obtain ⟨k, hk, rfl, rfl, hok⟩ := hrel
    by_cases hlt : k < args.length
    · obtain ⟨b, o, rfl, h1⟩ := X1.out.at k hlt
      have hyes := hid (fun hb => any_at (p := argBad T.sorts.length) hlt hb)
      have hnext := hid (fun hb : argBad T.sorts.length (nth args k) = false => show ∀ j, j < k + 1 → argBad T.sorts.length (nth args j) = false from fun j hj => by
        by_cases e : j = k
        · subst e; exact hb
        · exact hok.out j (by omega))
      have hab := @hid (argBad T.sorts.length (nth args k) = (nth args k == 0 || !isB T.sorts.length (nth args k))) rfl
      generalize nth args k = x at *
      by_cases hx0 : x = 0
      · have hv := @hid (errFun T ⟨nm, args, r⟩ = 1) (by rw [hd2.out, hyes.out (by rw [hab.out, hx0]; rfl)]; rfl)
        subst hx0
        go_wp2
        go_ret
        exact FunPost.no h'.out hb'.out hv.out (by decide)
      have hx0' : (x == 0) = false := by simpa using hx0
      have hia1 := hid (hia.out x)
      cases hix : isB T.sorts.length x
      case false =>
        have hv := @hid (errFun T ⟨nm, args, r⟩ = 1) (by rw [hd2.out, hyes.out (by rw [hab.out, hix]; simp)]; rfl)
        rw [hix] at hia1
        clear hix
        go_wp2_with fail
        refine hia1.out.mono ?_; rintro e w' ⟨rfl, rfl⟩
        go_wp2
        go_ret
        exact FunPost.no h'.out hb'.out hv.out (by decide)
      case true =>
        have hv := hid (hnext.out (by rw [hab.out, hix, hx0']; rfl))
        rw [hix] at hia1
        clear hix
        go_wp2_with fail
        refine hia1.out.mono ?_; rintro e w' ⟨rfl, rfl⟩
        go_wp2
        go_roundw
        case rel => exact ⟨k + 1, by omega, by go_num, by trivial, hv.out⟩
        case measure => simp [intOf]; omega
    · obtain rfl : k = args.length := by omega
      have hno := hid (any_take_no (fun j hj => hok.out j hj))
      by_cases h1000 : 1000 ≤ T.funs.length
      · have hv := @hid (errFun T ⟨nm, args, r⟩ = 4) (by rw [hd2.out, hno.out]; simp [h1000])
        have h1000i : (1000 : Int) ≤ T.funs.length := by omega
        go_wp2
        go_ret
        exact FunPost.no h'.out hb'.out hv.out (by decide)
      · have hv := @hid (errFun T ⟨nm, args, r⟩ = 0) (by rw [hd2.out, hno.out]; simp [h1000])
        have h1000i : (T.funs.length : Int) < 1000 := by omega
        have hown := hid (ownF_any nm a args.length c r args wr.drew X1.out.drew (by omega) T1.out.xlt)
        have hpw := T1.out.plt
        have hBw := Nat.le_trans T1.out.bp (Nat.le_of_lt hpw)
        clear hok hno hd2 his hia
        go_wp2
        go_region_law ((first
          | (refine step_append_C (by rfl) (.tmp 51) (.tmp 54) (by rfl) Tryz.underlying104 hi hz0 hz1 hz2 rfl (by decide) (by rfl) (by rfl) (OC.out.alloc _) (Src.one (b := w2.heap.size) (news := [.string nm, .slice a4 args.length c4, .int .i64 r]) rfl (triple_new _ _ _ w2 _)) triple_one (by unfold maxLen; omega) (by omega) (by simp; omega) ?_
             intro v' w3 ho3 hg3 hl3
             obtain ⟨a', c', rfl, _, _⟩ := ho3.slice
             have G3 := hid (grown_alloc hg3)
             have L3 := hid (loc_alloc hl3)
             have O3 := hid (OwnR.push (R := repF) (S := IntX X w2) (x := ⟨nm, args, r⟩) OL.out OE.out (repF_rd.2 ⟨a4, _, c4, rfl, C4.out, C5.out, S4.out, hrb'.out⟩) ho3 (fun b hlt hb => (grown_alloc hg3).block b hlt (fun e => ty_ne (by decide) (OC.out.ty b e.symm) hb.2)) (grown_alloc hg3).size)
             have q3 := (cell_grown (j := 1) G3.out (Nat.lt_of_lt_of_le hpw hsz2) hp2.out).trans q2
             have g3 := (frozen_grown (j := 1) G3.out (Nat.lt_of_lt_of_le hpw hsz2) hp2.out).trans g2
             clear ho3 hg3 hl3)
          | (go_simp
             go_at_call 111
             refine hown.out.mono ?_
             rintro e w2 ⟨a4, c4, rfl, hs4, hc4, hc5, hb4⟩
             have hb5 := below_drewl hb4
             have B5 := hid hb5
             have T2 := hid (T1.out.all hb5)
             have S4 := hid hs4
             have C4 := hid hc4
             have C5 := hid hc5
             obtain ⟨css, oc, ol, oe⟩ := O2.out.allI hb5
             have OC := hid oc
             have OL := hid ol
             have OE := hid oe
             have hsz2 : wr.heap.size ≤ w2.heap.size := hb5.size
             have hpw2 : p < w2.heap.size := Nat.lt_of_lt_of_le hpw hsz2
             have hblk2 := hid ((hb5.block p hpw).trans hblk'.out)
             have q2 : w2.cell? ⟨p, 1, none⟩ = some (.slice a2 T.funs.length c2) := cell_p hblk2.out 1
             have g2 : w2.frozen? ⟨p, 1, none⟩ = false := frz_p hblk2.out 1
             clear hs4 hc4 hc5 hb4 hb5 oc ol oe
             dsimp only)))
        all_goals
          go_wp2
          go_ret
          have hI : ∀ b, b < w3.heap.size → IntX X w2 b → IntX X w3 b := fun b _ hb => hb.same (G3.out.block b hb.lt (fun e => ty_ne (by decide) (OC.out.ty b e.symm) hb.2))
          obtain ⟨t2, s2⟩ := T2.out.setFuns hblk2.out G3.out L3.out (O3.out.mono hI)
          refine ⟨by rw [hv.out] <;> rfl, ?_, ((PStep.of_below h'.out.plt hb'.out).trans (PStep.of_below T1.out.plt B5.out)).trans s2⟩
          unfold addFun
          rw [hv.out, if_pos rfl]
          exact t2
end Go.Proofs.YtgoojkiccdjplaaGreatDoor
namespace Go
section
variable {P : Program} {ops : Array Oper} {Q : Exit → Act → World → Prop} {md : Region.Mode} {S : World → Prop}
def wpAnyT (P:Program) (md:Region.Mode) (ops:Array Oper) (Q:Exit→Act→World→Prop) (S:World→Prop) (n g:Nat):Nat→Array Bool→Act→World→Prop
 | 0,listed,a,w=>Region.seqB md ops g n listed=true∧wpList P ops Q (ops.toList.drop n) a w
 | f+1,listed,a,w=>Region.ready md ops listed ≠ []∧∀i∈Region.ready md ops listed,i<n∧wpOp P ops Q i (fun a' w'=>S w'∧wpAnyT P md ops Q S n g f (listed.setIfInBounds i true) a' w') a w
theorem wpAny_of_T {n g : Nat} (hg : (ops.toList.drop n).length = g) : ∀ (f : Nat) (listed : Array Bool) (a : Act) (w : World), wpAnyT P md ops Q S n g f listed a w → wpAny P md ops Q (f + g) listed a w
  | 0, listed, a, w, h => by
    rw [Nat.zero_add]
    have := wpAny_of_seq (P := P) (md := md) (Q' := Q) (ops.toList.drop n) n listed a w (fun j => by simp [List.getElem?_drop]) (by rw [hg]; exact h.1) h.2
    rwa [hg] at this
  | f + 1, listed, a, w, h => by
    rw [show f + 1 + g = (f + g) + 1 by omega]
    exact ⟨fun h0 => absurd h0 h.1, fun i hi => wpOp_mono (fun a' w' h' => wpAny_of_T hg f _ a' w' h'.2) (h.2 i hi).2⟩
theorem wpAnyT_first {n g i : Nat} {oi : Oper} {v : Value} (hi : ops[i]? = some oi) (hsel : ∀ (j : Nat) (o : Oper) cs b, ops[j]? = some o → o.op ≠ .select cs b)
    (hQ : ∀ c a w, Q (.panic c) (a.put oi.dst v) w → Q (.panic c) a w) (hs : Region.sinkB md ops n = true) (hc : Region.chainB md ops n = true) (hn : n < ops.size) (hin : i < n) :
    ∀ (f : Nat) (listed : Array Bool) (a : Act) (w : World), HeadInv md ops n listed →
      (∀ j oj, ops[j]? = some oj → j ≠ i → listed.getD j true = false → (∀ e ∈ oj.after, Region.binds md e = true → e.on ≠ i) → oi.apart ops oj = true) →
      i ∈ Region.ready md ops listed → YieldsIf P ops S oi v a → S w →
      wpAnyT P md ops Q S n g f (listed.setIfInBounds i true) (a.put oi.dst v) w → wpAnyT P md ops Q S n g (f + 1) listed a w := by
  intro f
  induction f with
  | zero =>
    intro listed a w inv _ hr hy hS H
    have hun := (mem_ready.1 hr).1
    refine ⟨fun h => (by rw [h] at hr; cases hr), fun j hj => ?_⟩
    have hjn : j < n := by
      rcases Nat.lt_or_ge j n with h | h
      · exact h
      · exact absurd hj (tail_waits hs hc hn inv _ i rfl hin hun j h)
    refine ⟨hjn, ?_⟩
    by_cases hji : j = i
    · subst hji; exact hy.wpOp hi hS ⟨hS, H⟩
    · have := seqB_ready H.1 j (ready_mono hj hji)
      omega
  | succ f ih =>
    intro listed a w inv hfree hr hy hS H
    have hun := (mem_ready.1 hr).1
    refine ⟨fun h => (by rw [h] at hr; cases hr), fun j hj => ?_⟩
    have hjn : j < n := by
      rcases Nat.lt_or_ge j n with h | h
      · exact h
      · exact absurd hj (tail_waits hs hc hn inv _ i rfl hin hun j h)
    refine ⟨hjn, ?_⟩
    by_cases hji : j = i
    · subst hji; exact hy.wpOp hi hS ⟨hS, H⟩
    · have h1 := (H.2 j (ready_mono hj hji)).2
      obtain ⟨hjun, oj, hoj, hall⟩ := mem_ready.1 hj
      have hnot : ∀ e ∈ oj.after, Region.binds md e = true → e.on ≠ i := fun e he hb heq => by
        have h1 := hall e he hb
        rw [heq, getD_both hun] at h1
        cases h1
      have h2 := wpOp_putIf hoj (hfree j oj hoj hji hjun hnot) (fun cs b => hsel i oi cs b hi) (fun cs b => hsel j oj cs b hoj) hQ hy h1
      have hfree' : ∀ k ok, ops[k]? = some ok → k ≠ i → (listed.setIfInBounds j true).getD k true = false →
          (∀ e ∈ ok.after, Region.binds md e = true → e.on ≠ i) → oi.apart ops ok = true := fun k ok hk hki hun hno => by
        refine hfree k ok hk hki ?_ hno
        by_cases hjk : j = k
        · subst hjk; exact hjun
        · rw [getD_set_ne true hjk] at hun; exact hun
      refine wpOp_mono (fun a' w' h3 => ⟨h3.2.1, ih (listed.setIfInBounds j true) a' w' (inv.set hj hjn) hfree' (ready_mono hr (Ne.symm hji)) h3.1 h3.2.1 ?_⟩) h2
      rw [Array.setIfInBounds_comm _ _ hji]
      exact h3.2.2
def TailOk (md:Region.Mode) (ops:Array Oper) (n:Nat):Bool:=Region.noSelect ops && decide (n<ops.size) && Region.sinkB md ops n && Region.chainB md ops n
def TT (P:Program) (md:Region.Mode) (ops:Array Oper) (Q:Exit→Act→World→Prop) (S:World→Prop) (n g f:Nat) (listed:Array Bool) (a:Act) (w:World):Prop:=
 TailOk md ops n=true→HeadInv md ops n listed→wpAnyT P md ops Q S n g f listed a w
theorem tailOk {n:Nat} (h:TailOk md ops n=true):Region.noSelect ops=true∧n<ops.size∧Region.sinkB md ops n=true∧Region.chainB md ops n=true:=by
 simp only [TailOk,Bool.and_eq_true,decide_eq_true_eq] at h
 exact⟨h.1.1.1,h.1.1.2,h.1.2,h.2⟩
section
variable {n g f i : Nat} {listed : Array Bool} {a : Act} {w : World}
theorem tt_take {oi:Oper} {v:Value} (hi:ops.toList[i]? = some oi) (hB:(decide (i<n) && Region.free md ops listed i && (Region.ready md ops listed).contains i)=true)
  (hQ:∀c a w,Q (.panic c) (a.put oi.dst v) w→Q (.panic c) a w) (hy:YieldsIf P ops S oi v a) (hS:S w)
  (h:TT P md ops Q S n g f (listed.setIfInBounds i true) (a.put oi.dst v) w):TT P md ops Q S n g (f+1) listed a w:=fun hT inv=>by
 obtain ⟨h1,h2,h3,h4⟩:=tailOk hT
 simp only [Bool.and_eq_true,decide_eq_true_eq] at hB
 have hr:i∈Region.ready md ops listed:=by simpa using hB.2
 have hi':ops[i]? = some oi:=by simpa using hi
 exact wpAnyT_first hi' (Region.noSelect_spec h1) hQ h3 h4 h2 hB.1.1 f listed a w inv (Region.free_spec hi' hB.1.2) hr hy hS (h hT (inv.set hr hB.1.1))
theorem tk {oi:Oper} {v:Value} (hi:ops.toList[i]? = some oi:=by rfl) (hB:(decide (i<n) && Region.free md ops listed i && (Region.ready md ops listed).contains i)=true:=by decide +kernel)
  (hQ:∀c a w,Q (.panic c) (a.put oi.dst v) w→Q (.panic c) a w:=by exact fun _ _ _ h=>h) (hy:YieldsIf P ops S oi v a:=by first | exact Or.inl ⟨by rfl,by(intro W hSw;(try dsimp only at hSw);go_simp <;> with_reducible rfl)⟩ | exact Or.inr ⟨by rfl,rfl⟩) (hS:S w:=by assumption)
  (h:TT P md ops Q S n g f (listed.setIfInBounds i true) (a.put oi.dst v) w):TT P md ops Q S n g (f+1) listed a w:=tt_take hi hB hQ hy hS h
def AllT (P:Program) (md:Region.Mode) (ops:Array Oper) (Q:Exit→Act→World→Prop) (S:World→Prop) (n g f:Nat) (listed:Array Bool) (a:Act) (w:World) (rs:List Nat):Prop:=
 ∀i∈rs,wpOp P ops Q i (fun a' w'=>S w'∧TT P md ops Q S n g f (listed.setIfInBounds i true) a' w') a w
theorem allT_nil:AllT P md ops Q S n g f listed a w []:=fun _ h=>by cases h
theorem allT_cons {o:Oper} {rs:List Nat} (ho:ops.toList[i]? = some o)
  (h:∀K':Act→World→Prop,Shut (∀a w,S w→(S w→TT P md ops Q S n g f (listed.setIfInBounds i true) a w)→K' a w)→if Region.wanted o (yielded ops a.tmps)=true then Oper.wp P o a w K' Q else K' (a.put o.dst undef) w)
  (hs:AllT P md ops Q S n g f listed a w rs):AllT P md ops Q S n g f listed a w (i :: rs):=fun j hj=>by
 rcases List.mem_cons.1 hj with rfl | hj
 ·exact wpOp_step (by simpa using ho) (fun K' hK=>h K' (fun a w hS hW=>hK a w ⟨hS,hW hS⟩))
 ·exact hs j hj
theorem tt_ready {rs:List Nat} (hr:(decide (Region.ready md ops listed=rs) && rs.all (fun i=>decide (i<n)) && !rs.isEmpty)=true) (h:AllT P md ops Q S n g f listed a w rs):TT P md ops Q S n g (f+1) listed a w:=fun hT inv=>by
 simp only [Bool.and_eq_true,decide_eq_true_eq,List.all_eq_true,Bool.not_eq_true'] at hr
 obtain ⟨⟨h1,h2⟩,h3⟩:=hr
 refine⟨fun h0=>(by rw [←h1,h0] at h3;cases h3),fun j hj=>?_⟩
 have hj':j∈rs:=by rw [←h1];exact hj
 exact⟨h2 j hj',wpOp_mono (fun a' w' h'=>⟨h'.1,h'.2 hT (inv.set hj (h2 j hj'))⟩) (h j hj')⟩
theorem tt_tail (hB:Region.seqB md ops g n listed=true) (h:wpList P ops Q (ops.toList.drop n) a w):TT P md ops Q S n g 0 listed a w:=fun _ _=>⟨hB,h⟩
end
theorem wp_region_tt {id:Nat} {l:List Oper} {a:Act} {w:World} (n:Nat) (hm:P.follows .mixedOrders=true) (hB:TailOk .any l.toArray n=true) (hS:S w.drew)
  (h:S w.drew→TT P .any l.toArray Q S n (l.length - n) n (Array.replicate l.length false) a w.drew):(Code.region id l.toArray true).wp P Q a w:=by
 obtain ⟨_,hn,_,_⟩:=tailOk hB
 have hn':n<l.length:=by simpa using hn
 have inv0:HeadInv .any l.toArray n (Array.replicate l.length false):=
  ⟨by simp,fun j oj _ hl=>(by rw [getD_replicate_false] at hl;cases hl),fun t _ ht=>getD_in (by simpa using ht) (getD_replicate_false _ _)⟩
 refine wp_region_any hm ?_
 have:=wpAny_of_T (P:=P) (S:=S) (g:=l.length - n) (by simp) _ _ _ _ (h hS hB inv0)
 rw [show n+(l.length - n)=l.length by omega] at this
 simpa using this
end
end Go
namespace Go.Proofs.YtgoojkiccdjplaaGreatDoor
open Go.RowKit Go.Lib
section
variable {w W W' w0 : World} {base base' g size n : Nat} {e : TypeId} {v : Value} {xs us : List Value}
theorem OwnC.lit0 (hg:g=w.heap.size) (hb:base≤w.heap.size):OwnC (w.alloc (.cells #[] e)) base e size (.slice (some ⟨g,0,none⟩) 0 0) 0 []:=by
 subst hg
 refine⟨by simp,.inr ⟨w.heap.size,0,#[],rfl,hb,?_,Nat.le_refl _,Nat.zero_le _,by simp,by simp⟩⟩
 show(w.heap.push _)[w.heap.size]? = _
 simp
theorem OwnC.lower (h:OwnC w base e size v n xs) (hb:base'≤base):OwnC w base' e size v n xs:=
 ⟨h.1,h.2.imp id fun⟨g,cap,cur,h1,h2,h3⟩=>⟨g,cap,cur,h1,Nat.le_trans hb h2,h3⟩⟩
def CellsF (w:World) (s:Nat) (us:List Value):Prop:=∀(j:Nat) (u:Value),us[j]? = some u→w.cell? ⟨s,j,none⟩=some u
theorem CellsF.lit {s:Nat} (hs:s=w.heap.size):CellsF (w.alloc (.cells us.toArray e)) s us:=fun j u hu=>by
 subst hs;rw [World.cell?_alloc_new];simpa using hu
theorem CellsF.lit1 {s:Nat} {u:Value} (hs:s=w.heap.size):CellsF (w.alloc (.cells #[u] e)) s [u]:=CellsF.lit (us:=[u]) hs
theorem Src.lit {s:Nat} (h:CellsF w s us) (hl:us.length=size):Src w size (some ⟨s,0,none⟩) 1 us:=Src.one hl h
theorem keep_drew (w0:World):Below w0.heap.size w0 w0.drew:=⟨rfl,rfl,rfl,Nat.le_refl _,fun _ _=>rfl⟩
theorem keep_alloc (h:Below w0.heap.size w0 W) (o:Obj):Below w0.heap.size w0 (W.alloc o):=h.alloc h.size o
theorem keep_push {row:Option Nat} (h:Below w0.heap.size w0 W) (hg:W.grownBy W' row) (hr:∀k,row=some k→w0.heap.size≤k):Below w0.heap.size w0 W':=h.grown hg h.size hr
theorem keep_cell {p:Addr} {u:Value} (h:Below w0.heap.size w0 W) (hc:w0.cell? p=some u):W.cell? p=some u:=by
 rw [h.cell (p:=p) (World.block_lt_of_cell? w0 _ hc)];exact hc
end
theorem Src.keep {w0 W:World} {size m:Nat} {A:Option Addr} {news:List Value} (h:Src w0 size A m news) (hb:Below w0.heap.size w0 W):Src W size A m news:=
 ⟨h.1,fun hm=>by
  obtain ⟨ad,ha,hc⟩:=h.2 hm
  exact⟨ad,ha,fun j u hu=>keep_cell hb (hc j u hu)⟩⟩
section
variable {P : Program} {t e : TypeId} {a : Option Addr} {n c k s : Nat}
theorem run_take2 (ht:P.underlying t=some (.slice e)) (hsz:∀w,(sizeOf e).run P w = .ok s w) (hk:k≤n) (hc:n≤c) (W:World) :
  (Instr.slice t (.slice a n c) none (some (.int .i64 k)) none).run P W = .ok (.slice a k c) W:=by
 have e0:(if c=0 then a else a.map (·.add (0 * s)))=a:=by
  split
  ·rfl
  ·cases a <;> simp [Addr.add]
 simp only [Nat.zero_mul] at e0
 have hkc:k≤c:=by omega
 simp [Instr.slice,Instr.sliceBounds,Instr.sliceBound,run_underlying ht,hsz,hkc,asIntOf]
 simpa using e0
def fromA (a:Option Addr) (c k s:Nat):Option Addr:=if c=k then a else a.map (·.add (k * s))
theorem run_from2 (ht:P.underlying t=some (.slice e)) (hsz:∀w,(sizeOf e).run P w = .ok s w) (hk:k≤n) (hc:n≤c) (W:World) :
  (Instr.slice t (.slice a n c) (some (.int .i64 k)) none none).run P W = .ok (.slice (fromA a c k s) (n - k) (c - k)) W:=by
 have hkc:k≤c:=by omega
 unfold fromA
 simp [Instr.slice,Instr.sliceBounds,Instr.sliceBound,run_underlying ht,hsz,hk,asIntOf]
end
section
variable {α : Type} {R : Rep α} {S : Nat → Prop} {w : World} {a : Option Addr} {n : Nat} {xs : List α}
theorem SlR.css (h : SlR R S w a n xs) : ∃ css : List (List Value), css.length = n ∧ (∀ (j : Nat) (x : α), xs[j]? = some x → ∃ cs, css[j]? = some cs ∧ R.rd S w x cs) ∧ ∀ q, q ≤ n → ∀ m, q + m ≤ n → ∀ c, n ≤ c → Src w R.k (fromA a c q R.k) m ((css.drop q).take m).flatten := by
  obtain ⟨hl, hc⟩ := h
  rcases Nat.eq_zero_or_pos n with h0 | h0
  · subst h0
    have : xs = [] := List.eq_nil_of_length_eq_zero hl
    subst this
    exact ⟨[], rfl, by simp, fun q hq m hm c _ => by
      obtain rfl : m = 0 := by omega
      simpa using Src.nothing (w := w) (size := R.k)⟩
  · obtain ⟨b, o, ha, hlt, hS, hc⟩ := hc h0
    have hall : ∀ i, i < n → ∃ cs : List Value, ∃ x, xs[i]? = some x ∧ R.rd S w x cs ∧ ∀ j u, cs[j]? = some u → w.cell? ⟨b, o + i * R.k + j, none⟩ = some u := fun i hi => by
      obtain ⟨cs, h1, h2⟩ := hc i _ (List.getElem?_eq_getElem (by omega : i < xs.length))
      exact ⟨cs, _, List.getElem?_eq_getElem (by omega), h1, h2⟩
    have hlist : ∀ m, m ≤ n → ∃ css : List (List Value), css.length = m ∧ ∀ j cs, css[j]? = some cs → ∃ x, xs[j]? = some x ∧ R.rd S w x cs ∧ ∀ i u, cs[i]? = some u → w.cell? ⟨b, o + j * R.k + i, none⟩ = some u := by
      intro m
      induction m with
      | zero => exact fun _ => ⟨[], rfl, by simp⟩
      | succ m ih =>
        intro hm
        obtain ⟨css, h1, h2⟩ := ih (by omega)
        obtain ⟨cs, h3⟩ := hall m (by omega)
        refine ⟨css ++ [cs], by simp [h1], fun j ds hj => ?_⟩
        by_cases hjm : j < css.length
        · rw [List.getElem?_append_left hjm] at hj; exact h2 j ds hj
        · have hl2 := (List.getElem?_eq_some_iff.1 hj).1
          rw [List.length_append, List.length_singleton] at hl2
          obtain rfl : j = m := by omega
          rw [← h1, List.getElem?_concat_length] at hj
          cases hj
          exact h3
    obtain ⟨css, h1, h2⟩ := hlist n (Nat.le_refl _)
    have hcl : ∀ cs ∈ css, cs.length = R.k := fun cs hcs => by
      obtain ⟨j, hj, rfl⟩ := List.getElem_of_mem hcs
      obtain ⟨x, _, h3, _⟩ := h2 j _ (List.getElem?_eq_getElem hj)
      exact R.len h3
    refine ⟨css, h1, fun j x hx => ?_, fun q hq m hm c hcap => ?_⟩
    · have hj : j < css.length := by have := (List.getElem?_eq_some_iff.1 hx).1; omega
      obtain ⟨y, h3, h4, _⟩ := h2 j _ (List.getElem?_eq_getElem hj)
      rw [hx] at h3
      cases h3
      exact ⟨_, List.getElem?_eq_getElem hj, h4⟩
    · have hfl : ∀ (l : List (List Value)), (∀ cs ∈ l, cs.length = R.k) → l.flatten.length = l.length * R.k := by
        intro l
        induction l with
        | nil => intro _; simp
        | cons d l ih => intro hl; rw [List.flatten_cons, List.length_append, hl d (by simp), ih (fun cs h => hl cs (by simp [h])), List.length_cons, Nat.succ_mul]; omega
      have hmem : ∀ cs ∈ (css.drop q).take m, cs.length = R.k := fun cs h => hcl cs (List.mem_of_mem_drop (List.mem_of_mem_take h))
      have hlen : ((css.drop q).take m).length = m := by rw [List.length_take, List.length_drop]; omega
      refine ⟨by rw [hfl _ hmem, hlen], fun hm0 => ?_⟩
      have hne : c ≠ q := by omega
      refine ⟨⟨b, o + q * R.k, none⟩, by unfold fromA; rw [if_neg hne, ha]; simp [Addr.add_lit], fun j u hu => ?_⟩
      rw [Addr.add_lit]
      have hkpos : 0 < R.k := by
        rcases Nat.eq_zero_or_pos R.k with hk | hk
        · have := (List.getElem?_eq_some_iff.1 hu).1
          rw [hfl _ hmem, hk] at this; omega
        · exact hk
      have hjm : j < m * R.k := by have := (List.getElem?_eq_some_iff.1 hu).1; rwa [hfl _ hmem, hlen] at this
      have hdm := Nat.div_add_mod j R.k
      have hq2 : j / R.k < m := Nat.div_lt_of_lt_mul (by rw [Nat.mul_comm]; exact hjm)
      have hmod := Nat.mod_lt j hkpos
      have hg : ((css.drop q).take m)[j / R.k]? = css[q + j / R.k]? := by rw [List.getElem?_take_of_lt hq2, List.getElem?_drop]
      have hcs : q + j / R.k < css.length := by omega
      obtain ⟨x, _, hrd, hcell⟩ := h2 (q + j / R.k) _ (List.getElem?_eq_getElem hcs)
      have hl3 := R.len hrd
      have hu2 := flat_at hmem (hg.trans (List.getElem?_eq_getElem hcs)) (List.getElem?_eq_getElem (show j % R.k < _ by rw [hl3]; exact hmod))
      have hj' : j / R.k * R.k + j % R.k = j := by rw [Nat.mul_comm]; exact hdm
      rw [hj'] at hu2
      rw [hu] at hu2
      cases hu2
      have := hcell (j % R.k) _ (List.getElem?_eq_getElem (by rw [hl3]; exact hmod))
      rw [← this]
      congr 2
      rw [Nat.add_mul]
      omega
end
theorem fromA_zero {a:Option Addr} {c s:Nat}:fromA a c 0 s=a:=by
 unfold fromA
 split
 ·rfl
 ·cases a <;> simp [Addr.add]
theorem RdI.srcs {w:World} {a:Option Addr} {n c q:Nat} {xs:List Int} (h:RdI w a n xs) (hq:q≤n) (hc:n≤c):Src w 1 a q ((xs.take q).map (Value.int .i64))∧Src w 1 (fromA a c q 1) (n - q) ((xs.drop q).map (Value.int .i64)):=by
 have hl:=h.len
 refine⟨⟨by simp;omega,fun h0=>?_⟩,⟨by simp;omega,fun h0=>?_⟩⟩
 ·obtain ⟨b,o,rfl,_,hcc⟩:=h.cells (by omega)
  refine⟨_,rfl,fun j u hu=>?_⟩
  have hj:=(List.getElem?_eq_some_iff.1 hu).1
  simp at hj
  rw [Addr.add_lit,hcc j (by omega)]
  rw [List.getElem?_map,List.getElem?_take_of_lt (by omega),List.getElem?_eq_getElem (by omega:j<xs.length)] at hu
  simp at hu
  rw [←hu,nth_eq (by omega)]
 ·obtain ⟨b,o,rfl,_,hcc⟩:=h.cells (by omega)
  have hne:c≠q:=by omega
  refine⟨⟨b,o+q,none⟩,by unfold fromA;rw [if_neg hne];simp [Addr.add_lit],fun j u hu=>?_⟩
  have hj:=(List.getElem?_eq_some_iff.1 hu).1
  simp at hj
  rw [Addr.add_lit,Nat.add_assoc,hcc (q+j) (by omega)]
  rw [List.getElem?_map,List.getElem?_drop,List.getElem?_eq_getElem (by omega:q+j<xs.length)] at hu
  simp at hu
  rw [←hu,nth_eq (by omega)]
theorem OwnC.rdI {w:World} {base n:Nat} {e:TypeId} {a:Option Addr} {m c:Nat} {xs:List Int} (h:OwnC w base e 1 (.slice a m c) n (xs.map (Value.int .i64))) (hwf:∀x∈xs,-9223372036854775808≤x∧x≤9223372036854775807):m=n∧RdI w a n xs∧(∀y,a=some y→base≤y.block):=by
 have hl:xs.length=n:=by simpa using h.1
 have hv:=h.2
 rcases hv with ⟨hv,rfl⟩ | ⟨g,cap,cur,hv,hg,hh,_⟩
 ·cases hv
  exact⟨rfl,⟨hl,hwf,by omega⟩,by simp⟩
 ·cases hv
  refine⟨rfl,⟨hl,hwf,fun _=>⟨g,0,rfl,(Array.getElem?_eq_some_iff.1 hh).1,fun j hj=>?_⟩⟩,by rintro y ⟨⟩;exact hg⟩
  have:=h.cells (g:=g) rfl j (.int .i64 (nth xs j)) (by rw [List.getElem?_map,List.getElem?_eq_getElem (by omega),nth_eq (by omega)];rfl)
  rw [Nat.zero_add];exact this
section
variable {α : Type} {R : Rep α} {S : Nat → Prop} {w W : World} {xs ys : List α} {css dss : List (List Value)}
def Pairs (R:Rep α) (S:Nat→Prop) (w:World) (xs:List α) (css:List (List Value)):Prop:=css.length=xs.length∧∀(j:Nat) (x:α),xs[j]? = some x→∃cs,css[j]? = some cs∧R.rd S w x cs
theorem Pairs.one {x:α} {cs:List Value} (h:R.rd S w x cs):Pairs R S w [x] [cs]:=⟨rfl,fun j y hy=>by
 cases j with
 | zero=>simp at hy;subst hy;exact⟨cs,rfl,h⟩
 | succ j=>simp at hy⟩
theorem Pairs.append (h:Pairs R S w xs css) (h':Pairs R S w ys dss):Pairs R S w (xs++ys) (css++dss):=⟨by rw [List.length_append,List.length_append,h.1,h'.1],fun j x hx=>by
 by_cases hj:j<xs.length
 ·rw [List.getElem?_append_left hj] at hx
  rw [List.getElem?_append_left (by rw [h.1];exact hj)]
  exact h.2 j x hx
 ·rw [List.getElem?_append_right (by omega)] at hx
  rw [List.getElem?_append_right (by rw [h.1];omega),h.1]
  exact h'.2 _ x hx⟩
theorem Pairs.at (h:Pairs R S w xs css) {cs:List Value} (hc:cs∈css):∃x,R.rd S w x cs:=by
 obtain ⟨j,hj,rfl⟩:=List.getElem_of_mem hc
 obtain ⟨ds,h1,h2⟩:=h.2 j _ (List.getElem?_eq_getElem (by rw [←h.1];exact hj))
 rw [List.getElem?_eq_getElem hj] at h1
 cases h1
 exact⟨_,h2⟩
theorem Pairs.ones (h:Pairs R S w xs css):∀u∈css.flatten,u.oneCell'=true:=fun u hu=>by
 obtain ⟨cs,hc,hu⟩:=List.mem_flatten.1 hu
 obtain ⟨x,hx⟩:=h.at hc
 exact R.one hx u hu
theorem Pairs.keep (h:Pairs R S w xs css) (hk:∀b,b<w.heap.size→S b→W.heap[b]? = w.heap[b]?) (hs:w.heap.size≤W.heap.size):Pairs R S W xs css:=⟨h.1,fun j x hx=>by
 obtain ⟨cs,h1,h2⟩:=h.2 j x hx
 exact⟨cs,h1,R.keep h2 hk hs⟩⟩
theorem Pairs.below (h:Pairs R S w xs css) (hb:Below w.heap.size w W):Pairs R S W xs css:=h.keep (fun b hlt _=>hb.block b hlt) hb.size
theorem Pairs.own {base n:Nat} {e:TypeId} {v:Value} (h:Pairs R S w xs css) (ho:OwnC w base e R.k v n css.flatten) (hn:n=xs.length):OwnR R S w base e v xs:=by
 subst hn;exact⟨css,ho,h.1,h.2⟩
theorem OwnR.pairs {base:Nat} {e:TypeId} {v:Value} (h:OwnR R S w base e v xs):∃css,OwnC w base e R.k v xs.length css.flatten∧Pairs R S w xs css:=by
 obtain ⟨css,h1,h2,h3⟩:=h
 exact⟨css,h1,h2,h3⟩
theorem SlR.pairs {a:Option Addr} {n:Nat} (h:SlR R S w a n xs):∃css,Pairs R S w xs css∧(∀q,q≤n→Src w R.k a q (css.take q).flatten)∧∀q,q≤n→∀c,n≤c→Src w R.k (fromA a c q R.k) (n - q) (css.drop q).flatten:=by
 obtain ⟨css,h1,h2,h3⟩:=h.css
 refine⟨css,⟨by rw [h1,h.1],h2⟩,fun q hq=>?_,fun q hq c hc=>?_⟩
 ·have:=h3 0 (Nat.zero_le _) q (by omega) n (Nat.le_refl _)
  rw [fromA_zero,List.drop_zero] at this
  exact this
 ·have:=h3 q hq (n - q) (by omega) c hc
  rwa [List.take_of_length_le (by rw [List.length_drop,h1];exact Nat.le_refl _)] at this
end
end Go.Proofs.YtgoojkiccdjplaaGreatDoor
namespace Go.Proofs.YtgoojkiccdjplaaGreatDoor
open Go.RowKit Go.Maps
def rawElemS (v:Value):Option (DataW Value × List MemPlace):=some (.held v,[])
def keyS (x:ByteArray):Lit:=.string x.data.toList
def okS (x:ByteArray):Prop:=x.size≤maxLen
theorem keyS_lit (x:ByteArray):WideAt.IsKeyLit (keyS x):=by simp [keyS,WideAt.IsKeyLit]
theorem keyS_ne {x y:ByteArray} (h:x≠y):keyS x≠keyS y:=fun e=>h (by
 have e2:x.data.toList=y.data.toList:=by simpa [keyS] using e
 obtain ⟨a⟩:=x
 obtain ⟨b⟩:=y
 simp at e2
 rw [e2])
def MapS (P:Program) (k:TypeId) (b n:Nat) (F:ByteArray→Option Value) (w:World):Prop:=
 ∃D:DataW Value,w.ownsMap P k rawElemS b n D∧Maps.size D=n∧∀x,Maps.has D (keyS x)=(F x).isSome∧∀z,D.atKey (keyS x) (.held z) = .held ((F x).getD z)
def updS (F:ByteArray→Option Value) (x:ByteArray) (v:Option Value):ByteArray→Option Value:=fun y=>if y=x then v else F y
theorem updS_same (F:ByteArray→Option Value) (x:ByteArray) (v:Option Value):updS F x v x=v:=by simp [updS]
theorem updS_other (F:ByteArray→Option Value) {x y:ByteArray} (v:Option Value) (h:y≠x):updS F x v y=F y:=by simp [updS,h]
variable {P : Program} {k t e : TypeId} {b n : Nat} {F : ByteArray → Option Value} {w w' : World}
theorem MapS.lt (h:MapS P k b n F w):b<w.heap.size:=by obtain ⟨D,h,_⟩:=h;exact h.lt
theorem MapS.made (w:World):MapS P k w.heap.size 0 (fun _=>none) (w.alloc (.map #[] 0)):=
 ⟨.map [],World.ownsMap_made w P k rawElemS,rfl,fun _=>⟨rfl,fun _=>rfl⟩⟩
theorem MapS.same (h:MapS P k b n F w) (hb:w'.heap[b]? = w.heap[b]?):MapS P k b n F w':=by
 obtain ⟨D,⟨es,clock,hb',r⟩,h2⟩:=h;exact⟨D,⟨es,clock,hb.trans hb',r⟩,h2⟩
theorem MapS.look (h:MapS P k b n F w) (hk:P.underlying k=some .string) (ht:P.underlying t=some (.map k e)) {z:Value} (hz:(zeroValue e).run P w = .ok z w) {x:ByteArray} (hx:okS x) :
  (Instr.lookup t (.map (some b)) (.string x) false).run P w = .ok ((F x).getD z) w:=by
 obtain ⟨D,h1,h2,h3⟩:=h
 obtain ⟨v,ps,hrun,hv⟩:=h1.lookup (string_keyed hk) ht hz (zd:=.held z) (zp:=[]) rfl (WideMaps.keyOf_string_mk hk hx)
 have e1:=(h3 x).2 z
 unfold keyS at e1
 rw [e1] at hv
 simp only [rawElemS,Option.some.injEq,Prod.mk.injEq,DataW.held.injEq] at hv
 rw [hrun,hv.1]
theorem MapS.look_ok (h:MapS P k b n F w) (hk:P.underlying k=some .string) (ht:P.underlying t=some (.map k e)) {z:Value} (hz:(zeroValue e).run P w = .ok z w) {x:ByteArray} (hx:okS x) :
  (Instr.lookup t (.map (some b)) (.string x) true).run P w = .ok (.tuple #[(F x).getD z,.bool (F x).isSome]) w:=by
 obtain ⟨D,h1,h2,h3⟩:=h
 obtain ⟨v,ps,hrun,hv⟩:=h1.look_ok (string_keyed hk) ht hz (zd:=.held z) (zp:=[]) rfl (WideMaps.keyOf_string_mk hk hx)
 have e1:=(h3 x).2 z
 have e2:=(h3 x).1
 unfold keyS at e1 e2
 rw [e1] at hv
 rw [e2] at hrun
 simp only [rawElemS,Option.some.injEq,Prod.mk.injEq,DataW.held.injEq] at hv
 rw [hrun,hv.1]
theorem MapS.store (h:MapS P k b n F w) (hk:P.underlying k=some .string) (ht:P.underlying t=some (.map k e)) (hn:n<maxLen) {x:ByteArray} (hx:okS x) (v:Value) :
  ∃w',(Instr.mapUpdate t (.map (some b)) (.string x) v).run P w = .ok () w'∧MapS P k b (if (F x).isSome then n else n+1) (updS F x (some v)) w'∧w.mapTurned w' b:=by
 obtain ⟨D,h1,h2,h3⟩:=h
 obtain ⟨w',hrun,ho,hg⟩:=h1.store (string_keyed hk) ht hn (WideMaps.keyOf_string_mk hk hx) (d:=.held v) (ps:=[]) (val:=v) rfl
 have hs:=size_put (h1.tidy (string_keyed hk)) (k:=keyS x) (.held v)
 rw [(h3 x).1,h2] at hs
 refine⟨w',hrun,⟨D.put (keyS x) (.held v),?_,hs,fun y=>?_⟩,hg⟩
 ·obtain ⟨es,clock,a1,a2,a3,a4⟩:=ho
  refine⟨es,clock,a1,a2,?_,a4⟩
  have e1:Maps.size (D.put (keyS x) (.held v))=es.size:=by
   show Maps.size (D.put (.string x.data.toList) (.held v))=es.size
   rw [a4];simp [Maps.size,length_sorted]
  rw [←e1,hs]
  exact Nat.le_refl _
 ·by_cases hy:y=x
  ·subst hy
   rw [updS_same]
   exact⟨has_put_same h1.isMap (keyS_lit y) _,fun z=>by rw [atKey_put_same h1.isMap (keyS_lit y)];rfl⟩
  ·rw [updS_other F _ hy]
   exact⟨by rw [has_put_other (keyS_ne hy)];exact(h3 y).1,fun z=>by rw [atKey_put_other (keyS_ne hy)];exact(h3 y).2 z⟩
structure RatD where
 neg:Bool
 num:List Int
 den:List Int
structure NodeD where
 op:Int
 name:ByteArray
 val:RatD
 args:List Int
 sort:Int
def okU (x:Int):Prop:=0≤x∧x≤18446744073709551615
def Rep.u64:Rep Int where
 k:=1
 rd _ _ x cs:=cs = [.int .u64 x]∧okU x
 len h:=by rw [h.1];rfl
 one h:=by rw [h.1];intro u hu;simp at hu;subst hu;rfl
 keep h _ _:=h
 mono h _:=h
def repR:Rep RatD:=Rep.map (fun r=>(r.neg,r.num,r.den)) (.prod .bool (.prod (.slice .u64) (.slice .u64)))
def repN:Rep NodeD:=Rep.map (fun n=>(n.op,n.name,n.val,n.args,n.sort)) (.prod .int (.prod .str (.prod repR (.prod (.slice .int) .int))))
def repP:Rep (Bool × Bool):=.prod .bool .bool
theorem repN_k:repN.k=7:=rfl
theorem repP_k:repP.k=2:=rfl
theorem repR_rd {S:Nat→Prop} {w:World} {r:RatD} {cs:List Value}:repR.rd S w r cs↔∃a n c b m d,cs = [.bool r.neg,.slice a n c,.slice b m d]∧n≤c∧c≤maxLen∧SlR Rep.u64 S w a n r.num∧m≤d∧d≤maxLen∧SlR Rep.u64 S w b m r.den:=by
 constructor
 ·rintro ⟨x,y,rfl,h1,x',y',rfl,⟨a,n,c,h2,h3,h4,h5⟩,⟨b,m,d,h6,h7,h8,h9⟩⟩
  have h1':x = [.bool r.neg]:=h1
  subst h1' h2 h6
  exact⟨a,n,c,b,m,d,rfl,h3,h4,h5,h7,h8,h9⟩
 ·rintro ⟨a,n,c,b,m,d,rfl,h3,h4,h5,h7,h8,h9⟩
  exact⟨[.bool r.neg],_,rfl,rfl,[.slice a n c],_,rfl,⟨a,n,c,rfl,h3,h4,h5⟩,⟨b,m,d,rfl,h7,h8,h9⟩⟩
structure NodeS (S:Nat→Prop) (w:World) (x:NodeD) (a:Option Addr) (c:Nat) (b:Option Addr) (d:Nat) (g:Option Addr) (e:Nat):Prop where
 num:SlR Rep.u64 S w a x.val.num.length x.val.num
 nc:x.val.num.length≤c∧c≤maxLen
 den:SlR Rep.u64 S w b x.val.den.length x.val.den
 dc:x.val.den.length≤d∧d≤maxLen
 args:SlR Rep.int S w g x.args.length x.args
 ac:x.args.length≤e∧e≤maxLen
 op:okI x.op
 sort:okI x.sort
def nodeC (x:NodeD) (a:Option Addr) (c:Nat) (b:Option Addr) (d:Nat) (g:Option Addr) (e:Nat):List Value:=
 [.int .i64 x.op,.string x.name,.bool x.val.neg,.slice a x.val.num.length c,.slice b x.val.den.length d,.slice g x.args.length e,.int .i64 x.sort]
theorem repN_rd {S:Nat→Prop} {w:World} {x:NodeD} {cs:List Value}:repN.rd S w x cs↔∃a c b d g e,cs=nodeC x a c b d g e∧NodeS S w x a c b d g e:=by
 constructor
 ·rintro ⟨p,q,rfl,⟨h1,h1'⟩,p',q',rfl,h2,p2,q2,rfl,h3,p3,q3,rfl,⟨g,m,e,h4,h5,h6,h7⟩,h8,h8'⟩
  obtain ⟨a,n,c,b,k,d,rfl,r1,r2,r3,r4,r5,r6⟩:=repR_rd.1 h3
  have h1':p = [.int .i64 x.op]:=h1
  have h2':p' = [.string x.name]:=h2
  have h8':q3 = [.int .i64 x.sort]:=h8
  subst h1' h2' h8' h4
  obtain rfl:n=x.val.num.length:=r3.1.symm
  obtain rfl:k=x.val.den.length:=r6.1.symm
  obtain rfl:m=x.args.length:=h7.1.symm
  exact⟨a,c,b,d,g,e,rfl,r3,⟨r1,r2⟩,r6,⟨r4,r5⟩,h7,⟨h5,h6⟩,by assumption,by assumption⟩
 ·rintro ⟨a,c,b,d,g,e,rfl,h⟩
  exact⟨[.int .i64 x.op],_,rfl,⟨rfl,h.op⟩,[.string x.name],_,rfl,rfl,[.bool x.val.neg,.slice a x.val.num.length c,.slice b x.val.den.length d],_,rfl,repR_rd.2 ⟨a,_,c,b,_,d,rfl,h.nc.1,h.nc.2,h.num,h.dc.1,h.dc.2,h.den⟩,[.slice g x.args.length e],_,rfl,⟨g,_,e,rfl,h.ac.1,h.ac.2,h.args⟩,rfl,h.sort⟩
theorem repP_rd {S:Nat→Prop} {w:World} {x:Bool × Bool} {cs:List Value}:repP.rd S w x cs↔cs = [.bool x.1,.bool x.2]:=by
 constructor
 ·rintro ⟨p,q,rfl,h1,h2⟩
  have h1':p = [.bool x.1]:=h1
  have h2':q = [.bool x.2]:=h2
  subst h1' h2'
  rfl
 ·rintro rfl
  exact⟨[.bool x.1],[.bool x.2],rfl,rfl,rfl⟩
section
variable {S S' : Nat → Prop} {w w' : World} {x : NodeD} {a b g : Option Addr} {c d e : Nat}
theorem NodeS.keep (h:NodeS S w x a c b d g e) (hk:∀y,y<w.heap.size→S y→w'.heap[y]? = w.heap[y]?) (hs:w.heap.size≤w'.heap.size):NodeS S w' x a c b d g e:=
 ⟨h.num.keep hk hs,h.nc,h.den.keep hk hs,h.dc,h.args.keep hk hs,h.ac,h.op,h.sort⟩
theorem NodeS.mono (h:NodeS S w x a c b d g e) (hk:∀y,y<w.heap.size→S y→S' y):NodeS S' w x a c b d g e:=
 ⟨h.num.mono hk,h.nc,h.den.mono hk,h.dc,h.args.mono hk,h.ac,h.op,h.sort⟩
theorem NodeS.below (h:NodeS S w x a c b d g e) (hb:Below w.heap.size w w'):NodeS S w' x a c b d g e:=h.keep (fun y hy _=>hb.block y hy) hb.size
end
def DatB (w:World) (k:Nat):Prop:=∃cs f,w.heap[k]? = some (.cells cs 3 f)∨w.heap[k]? = some (.cells cs 177 f)
def DatX (X:Nat→Prop) (w:World) (k:Nat):Prop:=¬X k∧DatB w k
theorem DatB.lt {w:World} {k:Nat} (h:DatB w k):k<w.heap.size:=by
 obtain ⟨cs,f,h | h⟩:=h
 ·exact(Array.getElem?_eq_some_iff.1 h).1
 ·exact(Array.getElem?_eq_some_iff.1 h).1
theorem DatB.same {w w':World} {k:Nat} (h:DatB w k) (hb:w'.heap[k]? = w.heap[k]?):DatB w' k:=by obtain ⟨cs,f,h⟩:=h;exact⟨cs,f,by rw [hb];exact h⟩
theorem DatB.ne {w:World} {k:Nat} {t:TypeId} (h:DatB w k) (h1:t≠3) (h2:t≠177) (ht:∃cs f,w.heap[k]? = some (.cells cs t f)):False:=by
 obtain ⟨cs,f,h | h⟩:=h
 ·exact ty_ne h1 ht ⟨_,_,h⟩
 ·exact ty_ne h2 ht ⟨_,_,h⟩
def ownT (p:Nat) (w:World) (k:Nat):Prop:=ownOf w p k∨∃cs t f,w.heap[p]? = some (.cells cs t f)∧∃v∈cs.toList,v = .map (some k)
structure TStep (p:Nat) (w w':World):Prop where
 os:w'.os=w.os
 tape:w'.tape=w.tape
 output:w'.output=w.output
 size:w.heap.size≤w'.heap.size
 block:∀k,k<w.heap.size→¬ownT p w k→w'.heap[k]? = w.heap[k]? ∧ ¬ownT p w' k
section
variable {p : Nat} {w w' w'' : World}
theorem ownT.same (h:w'.heap[p]? = w.heap[p]?) {k:Nat}:ownT p w' k↔ownT p w k:=by unfold ownT;rw [ownOf.same h,h]
theorem TStep.trans (h:TStep p w w') (k:TStep p w' w''):TStep p w w'':=
 ⟨k.os.trans h.os,k.tape.trans h.tape,k.output.trans h.output,Nat.le_trans h.size k.size,fun i hi hn=>by
  obtain ⟨e1,n1⟩:=h.block i hi hn
  obtain ⟨e2,n2⟩:=k.block i (Nat.lt_of_lt_of_le hi h.size) n1
  exact⟨e2.trans e1,n2⟩⟩
theorem TStep.of_below (hp:p<w.heap.size) (h:Below w.heap.size w w'):TStep p w w':=
 ⟨h.os,h.tape,h.output,h.size,fun k hk hn=>⟨h.block k hk,fun e=>hn ((ownT.same (h.block p hp)).1 e)⟩⟩
theorem TStep.below {B:Nat} (h:TStep p w w') (hB:B≤w.heap.size) (ho:∀k,ownT p w k→B≤k):Below B w w':=
 ⟨h.os,h.tape,h.output,h.size,fun k hk=>(h.block k (by omega) (fun e=>by have:=ho k e;omega)).1⟩
end
end Go.Proofs.YtgoojkiccdjplaaGreatDoor
