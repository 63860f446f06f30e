/-
  Parts of this claim's texts, one behind the other: SK RC RD RE. No condition.
-/
import Derived.Test.YtgoojkiccdjplaaGreatDoorM20
set_option linter.unusedVariables false
set_option linter.unusedSimpArgs false
set_option maxRecDepth 100000
set_option maxHeartbeats 16000000
namespace Go.Proofs.YtgoojkiccdjplaaGreatDoor
open Go.RowKit Go.Sort Go.Lib
def sU:ByteArray:=⟨#[85]⟩
def sBool:ByteArray:=⟨#[66,111,111,108]⟩
def sf:ByteArray:=⟨#[102]⟩
def sg:ByteArray:=⟨#[103]⟩
def sx:ByteArray:=⟨#[120]⟩
def aT0:TabD:=⟨[],[],[]⟩
theorem toL (s:ByteArray):s.toList=s.data.toList:=Lib.toList_data s
theorem eqS_data (a b:ByteArray):eqS a b=(a.data.toList == b.data.toList):=by unfold eqS;rw [toL,toL]
theorem mayB_data (s:ByteArray):mayB s=(!s.data.toList.isEmpty && (decide (s.size≤200) && !resB s)):=by unfold mayB;rw [toL]
theorem may_U:mayB sU=true:=by rw [mayB_data];decide +kernel
theorem may_Bool:mayB sBool=false:=by rw [mayB_data];decide +kernel
theorem bad_U:badSort aT0 sU=false:=by unfold badSort;rw [may_U];decide +kernel
theorem SortPost.yes {X:Nat→Prop} {B p:Nat} {T:TabD} {s:ByteArray} {w w':World} {e:Ending} (h:SortPost X B p T s w e w') (hb:badSort T s=false):e = .returned (.tuple #[.int .i64 ((T.sorts.length:Int)+2),.int .i64 0])∧TabX X B p { T with sorts:=T.sorts ++ [s] } w'∧PStep p w w':=by
 unfold SortPost at h;rw [if_neg (by rw [hb];decide)] at h;exact⟨h.1.1,h.1.2,h.2⟩
variable {X : Nat → Prop}
theorem OwnR.funAt {S:Nat→Prop} {w:World} {base:Nat} {e:TypeId} {a:Option Addr} {n c:Nat} {fs:List FunD} (h:OwnR repF S w base e (.slice a n c) fs) {k:Nat} {f:FunD} (hf:fs[k]? = some f) :
  ∃g a' c',a=some ⟨g,0,none⟩∧w.cell? ⟨g,k * 3,none⟩=some (.string f.name)∧w.cell? ⟨g,k * 3+1,none⟩=some (.slice a' f.args.length c')∧w.cell? ⟨g,k * 3+2,none⟩=some (.int .i64 f.res)∧SlR Rep.int S w a' f.args.length f.args∧okI f.res∧f.args.length≤c'∧c'≤maxLen:=by
 obtain ⟨css,h1,h2⟩:=h.pairs
 have hkl:=(List.getElem?_eq_some_iff.1 hf).1
 obtain ⟨g,cap,hv,_⟩:=h1.form (by omega)
 cases hv
 obtain ⟨cs,hc,hr⟩:=h2.2 k f hf
 obtain ⟨a',n',c',rfl,q1,q2,q3,q4⟩:=repF_rd.1 hr
 obtain rfl:n'=f.args.length:=q3.1.symm
 have hat:=fun(i:Nat) (u:Value) (hu:[Value.string f.name,.slice a' f.args.length c',.int .i64 f.res][i]? = some u)=>h1.cells (g:=g) rfl _ u (flat_at (k:=3) (OwnR.lens h2.1 h2.2) hc hu)
 exact⟨g,a',c',rfl,hat 0 _ rfl,hat 1 _ rfl,hat 2 _ rfl,q3,q4,q1,q2⟩
theorem find_hit {T : TabD} {s : ByteArray} {k : Nat} {f : FunD} (h : ∀ j f, j < k → T.funs[j]? = some f → (f.name.toList == s.toList) = false) (hk : T.funs[k]? = some f) (hx : (f.name.toList == s.toList) = true) : findF T s = some f ∧ lookF T s = f := by
  have e : findF T s = some f := by
    have := idxP_find (p := fun f : FunD => eqS f.name s) T.funs 0
    unfold findF
    have hh := idxP_hit (p := fun f : FunD => eqS f.name s) (xs := T.funs) (fun j f hj hf => h j f hj hf) hk hx
    cases hf : T.funs.find? (fun f => eqS f.name s) with
    | none => rw [hf] at this; dsimp only at this; rw [this] at hh; omega
    | some y =>
      rw [hf] at this
      obtain ⟨k2, h1, h2⟩ := this
      rw [hh] at h1
      obtain rfl : k = k2 := by omega
      rw [hk] at h2
      exact h2.symm
  exact ⟨e, by unfold lookF; rw [e]; rfl⟩
theorem find_miss {T:TabD} {s:ByteArray} (h:∀j f,j<T.funs.length→T.funs[j]? = some f→(f.name.toList == s.toList)=false):findF T s=none∧lookF T s=noFun:=by
 have e:findF T s=none:=by
  unfold findF
  rw [List.find?_eq_none]
  intro f hf
  obtain ⟨j,hj,rfl⟩:=List.getElem_of_mem hf
  have:=h j _ hj (List.getElem?_eq_getElem hj)
  show ¬eqS _ _=true
  unfold eqS
  rw [this];decide
 exact⟨e,by unfold lookF;rw [e];rfl⟩
theorem rfind_any (B p:Nat) (T:TabD) (s:ByteArray) (w:World) (h:RefX X B p T w) (hs:Small T) :
  Calls Tryz.prog 112 #[.pointer (some ⟨p,0,none⟩),.string s] w fun e w'=>TellF X (lookF T s) (findF T s).isSome w e w':=by
 have hB0:Below w.heap.size w (w.alloc (.cells #[.string ⟨#[]⟩,.slice none 0 0,.int .i64 0] 114)):=(Below.refl _ _).alloc (Nat.le_refl _) _
 have h2:=h.all hB0
 have hfl:=hs.f
 have hplt:=h.plt
 obtain ⟨a1,c1,a2,c2,a3,c3,hblk,_,o2,_⟩:=h2.look
 have k1:=cell_p hblk 1
 simp only [List.getElem?_toArray,List.getElem?_cons_succ,List.getElem?_cons_zero] at k1
 have O2:=hid o2
 have hB0':=hid hB0
 have H2:=heap_alloc_new w (.cells #[.string ⟨#[]⟩,.slice none 0 0,.int .i64 0] 114)
 have k20:=cell_p H2 0
 have k21:=cell_p H2 1
 have k22:=cell_p H2 2
 simp only [List.getElem?_toArray,List.getElem?_cons_succ,List.getElem?_cons_zero] at k20 k21 k22
 have f20:=frz_p H2 0
 have f21:=frz_p H2 1
 have f22:=frz_p H2 2
 have hN:=hid (show ¬IntX X (w.alloc (.cells #[.string ⟨#[]⟩,.slice none 0 0,.int .i64 0] 114)) w.heap.size from fun h=>ty_ne (by decide) h.2 ⟨_,_,H2⟩)
 have hpn:p≠w.heap.size:=by omega
 clear h h2 hB0 hblk o2 H2 hs
 go_enter Tryz.func112,Tryz.ntmps112
 go_wp2
 generalize (w.alloc (.cells #[.string ⟨#[]⟩,.slice none 0 0,.int .i64 0] 114))=w1 at *
 go_loopw [5,6] (fun _ i wr=>∃k:Nat,k≤T.funs.length∧i = .int .i64 k∧wr=w1∧Hid (∀j f,j<k→T.funs[j]? = some f→(f.name.toList == s.toList)=false)) (fun _ i _=>T.funs.length - (intOf i).toNat)
 case atStart=>exact⟨0,Nat.zero_le _,rfl,rfl,by intro j f hj;omega⟩
 case round=>
  obtain ⟨k,hk,rfl,rfl,hne⟩:=hrel
  by_cases hlt:k<T.funs.length
  ·have hf:=List.getElem?_eq_getElem hlt
   obtain ⟨g,a',c',rfl,q0,q1,q2,q3,q4,q5,q6⟩:=O2.out.funAt hf
   have Q3:=hid q3
   have Q5:=hid (And.intro q5 q6)
   have hf':=hid hf
   clear hf q3 q4 q5 q6
   cases he:(T.funs[k].name.toList == s.toList)
   ·have hsn:=@hid (∀j f,j<k+1→T.funs[j]? = some f→(f.name.toList == s.toList)=false) (fun j f hj hf=>by
     by_cases hjk:j<k
     ·exact hne.out j f hjk hf
     ·obtain rfl:j=k:=by omega
      rw [hf'.out] at hf
      cases hf
      exact he)
    generalize T.funs[k]=f at *
    go_wp2
    go_roundw
    case rel=>exact⟨k+1,by omega,by go_num,by trivial,hsn.out⟩
    case measure=>simp [intOf];omega
   ·have hv:=hid (find_hit (fun j f hj hf=>hne.out j f hj hf) hf'.out he)
    generalize T.funs[k]=f at *
    go_wp2
    refine bodyPost_ret (v:=.tuple #[funV f.name a' f.args.length c' f.res,.bool true]) (by simp [results,Tryz.results112,go_sem, *]) rfl ?_
    refine⟨a',c',by rw [hv.out.1,hv.out.2] <;> rfl,by rw [hv.out.2];exact((Q3.out.intSet hN.out).intSet (fun h=>hN.out (intB_set.1 h))).intSet (fun h=>hN.out (intB_set.1 (intB_set.1 h))),by rw [hv.out.2];exact Q5.out.1,Q5.out.2,?_⟩
    exact((hB0'.out.setCell (Nat.le_refl _) _).setCell (Nat.le_refl _) _).setCell (Nat.le_refl _) _
  ·have hv:=hid (find_miss (T:=T) (s:=s) (fun j f hj hf=>hne.out j f (by omega) hf))
   go_wp2
   refine bodyPost_ret (v:=.tuple #[funV ⟨#[]⟩ none 0 0 0,.bool false]) (by simp [results,Tryz.results112,go_sem, *]) rfl ?_
   refine⟨none,0,by rw [hv.out.1,hv.out.2] <;> rfl,by rw [hv.out.2];exact SlR.nil _ _ _ _,by rw [hv.out.2];exact Nat.le_refl _,Nat.zero_le _,?_⟩
   exact((hB0'.out.setCell (Nat.le_refl _) _).setCell (Nat.le_refl _) _).setCell (Nat.le_refl _) _
theorem bool_may:mayB sBool=false:=may_Bool
theorem real_may:mayB ⟨#[82,101,97,108]⟩=false:=by rw [mayB_data];decide +kernel
theorem rbad {T:TabD} {s:ByteArray}:(!mayB s || (findSort T s).2)=badSort T s:=by
 unfold badSort
 cases hm:mayB s
 ·rfl
 ·have h1:(s.toList == [66,111,111,108])=false:=by
   cases h:(s.toList == [66,111,111,108])
   ·rfl
   ·have:s=sBool:=toList_inj (by rw [toL sBool];simpa [sBool] using h)
    rw [this,bool_may] at hm;cases hm
  have h2:(s.toList == [82,101,97,108])=false:=by
   cases h:(s.toList == [82,101,97,108])
   ·rfl
   ·have:s=⟨#[82,101,97,108]⟩:=toList_inj (by rw [toL ⟨#[82,101,97,108]⟩];simpa using h)
    rw [this,real_may] at hm;cases hm
  unfold findSort Lib.containsS
  rw [h1,h2]
  by_cases h3:Lib.idxOfS T.sorts s<0
  ·simp [h3]
  ·simp [h3];omega
def RSortPost (X:Nat→Prop) (B p:Nat) (T:TabD) (s:ByteArray) (w:World) (e:Ending) (w':World):Prop:=
 (if badSort T s then e = .returned (.tuple #[.int .i64 0,.int .i64 1])∧RefX X B p T w' else e = .returned (.tuple #[.int .i64 ((T.sorts.length:Int)+2),.int .i64 0])∧RefX X B p { T with sorts:=T.sorts ++ [s] } w')∧PStep p w w'
theorem str_one1 {z:ByteArray}:∀u ∈ [Value.string z],u.oneCell'=true:=by
 intro u hu
 obtain rfl:=List.mem_singleton.1 hu
 rfl
theorem below_grown {w W:World} {row:Option Nat} (h:Below w.heap.size w W):w.grownBy W row:=⟨h.os,h.tape,h.output,h.size,fun k hk _=>h.block k hk⟩
theorem rsort_any (B p:Nat) (T:TabD) (s:ByteArray) (w:World) (h:RefX X B p T w) (hl:T.sorts.length<1099511627776) :
  Calls Tryz.prog 58 #[.pointer (some ⟨p,0,none⟩),.string s] w fun e w'=>RSortPost X B p T s w e w':=by
 have h':=hid h
 have hfs:=hid (rfindSort_any B p T s w h hl)
 have hnm:=hid (rname_any s w)
 have hbd:=hid (rbad (T:=T) (s:=s))
 obtain ⟨i0,hi,hz0,hz1,hz2⟩:=info_parts info_str
 clear h
 cases hb:badSort T s
 case true=>
  rw [hb] at hbd
  cases hm:mayB s
  ·rw [hm] at hnm
   clear hm hbd
   go_enter Tryz.func58,Tryz.ntmps58
   go_wp2_with fail
   refine hfs.out.mono ?_;rintro e w' ⟨rfl,rfl⟩
   go_wp2_with fail
   refine hnm.out.mono ?_;rintro e w1 ⟨rfl,b1⟩
   have B1:=hid b1
   clear b1
   go_wp2
   go_ret2
   unfold RSortPost
   rw [if_pos hb]
   exact⟨⟨rfl,h'.out.all B1.out⟩,.of_below h'.out.plt B1.out⟩
  ·have hf2:(findSort T s).2=true:=by have:=hbd.out;rw [hm] at this;simpa using this
   rw [hm] at hnm
   rw [hf2] at hfs
   clear hm hbd hf2
   go_enter Tryz.func58,Tryz.ntmps58
   go_wp2_with fail
   refine hfs.out.mono ?_;rintro e w' ⟨rfl,rfl⟩
   go_wp2_with fail
   refine hnm.out.mono ?_;rintro e w1 ⟨rfl,b1⟩
   have B1:=hid b1
   clear b1
   go_wp2
   go_ret2
   unfold RSortPost
   rw [if_pos hb]
   exact⟨⟨rfl,h'.out.all B1.out⟩,.of_below h'.out.plt B1.out⟩
 case false=>
  rw [hb] at hbd
  have hm:mayB s=true:=by have:=hbd.out;cases hm:mayB s <;> simp_all
  have hf2:(findSort T s).2=false:=by have:=hbd.out;rw [hm] at this;simpa using this
  rw [hm] at hnm
  rw [hf2] at hfs
  clear hm hbd hf2
  go_enter Tryz.func58,Tryz.ntmps58
  go_wp2_with fail
  refine hfs.out.mono ?_;rintro e w' ⟨rfl,rfl⟩
  go_wp2_with fail
  refine hnm.out.mono ?_;rintro e w1 ⟨rfl,b1⟩
  have B1:=hid b1
  have R1:=hid (h'.out.all b1)
  obtain ⟨a1,c1,a2,c2,a3,c3,hblk,o1,o2,o3⟩:=R1.out.look
  have k0:w1.cell? ⟨p,0,none⟩=some (.slice a1 T.sorts.length c1):=cell_p hblk 0
  have hblk':=hid hblk
  have hplt:=R1.out.plt
  obtain ⟨css,pA0,sA0,_⟩:=(o1.read (S':=fun _=>True) (fun _ _ _=>trivial) (fun _ _=>trivial)).pairs
  obtain ⟨css2,_,pB0⟩:=o1.pairs
  have ecss:css=css2:=by
   apply List.ext_getElem?
   intro j
   by_cases hj:j<T.sorts.length
   ·obtain ⟨x1,y1,z1⟩:=pA0.2 j _ (List.getElem?_eq_getElem hj)
    obtain ⟨x2,y2,z2⟩:=pB0.2 j _ (List.getElem?_eq_getElem hj)
    have z1':x1 = [.string _]:=z1
    have z2':x2 = [.string _]:=z2
    rw [y1,y2,z1',z2']
   ·rw [List.getElem?_eq_none (by rw [pA0.1];omega),List.getElem?_eq_none (by rw [pB0.1];omega)]
  subst ecss
  have sA:=hid (show Src w1 1 a1 T.sorts.length css.flatten by have:=sA0 T.sorts.length (Nat.le_refl _);rwa [List.take_of_length_le (by rw [pA0.1];exact Nat.le_refl _)] at this)
  have pA:=hid pB0
  have pO:=hid pA0.ones
  clear b1 hblk o1 o2 o3 pA0 pB0 sA0
  have hK1:Below w1.heap.size w1 (w1.alloc (.cells #[] 9)):=keep_alloc (Below.refl _ _) _
  have hK1':=hid hK1
  clear hK1
  go_wp2_with (at_builtin;refine wpList_append_C (base:=w1.heap.size) rfl (.tmp 21) (.tmp 25) rfl Tryz.underlying60 hi hz0 hz1 hz2 rfl (by decide) (Eq.refl (Value.slice _ _ _)) rfl (OwnC.lit0 rfl (Nat.le_refl _)) (Src.keep sA.out hK1'.out) pO.out ?c3 ?c4 ?c5 ?_)
  case c3=>unfold maxLen;omega
  case c4=>omega
  case c5=>simp
  intro v' w2 ho2 hg2 _
  have B2:=hid (keep_push hK1'.out hg2 (by intro k hk;simp [Value.ownBlock] at hk;omega))
  obtain ⟨a',c',rfl,_⟩:=ho2.slice
  have O2:=hid ho2
  clear ho2 hg2
  have hsz2:=B2.out.size
  go_wp2_with (at_builtin;refine wpList_append_C (base:=w1.heap.size) rfl (.tmp 26) (.tmp 28) rfl Tryz.underlying60 hi hz0 hz1 hz2 rfl (by decide) (Eq.refl (Value.slice _ _ _)) rfl (O2.out.alloc _) (Src.lit (CellsF.lit1 rfl) rfl) str_one1 ?c3 ?c4 ?c5 ?_)
  case c3=>unfold maxLen;omega
  case c4=>omega
  case c5=>simp;omega
  intro v'' w3 ho3 hg3 _
  have b3:=keep_push (keep_alloc B2.out _) hg3 (fun k hk=>(O2.out.lt k hk).1)
  have B3:=hid b3
  have k3:=keep_cell b3 k0
  have f3:=frz_p ((b3.block p hplt).trans hblk'.out) 0
  obtain ⟨a'',c'',rfl,_⟩:=ho3.slice
  have O3:=hid (((pA.out.append (Pairs.one (show Rep.str.rd (fun _=>False) w1 s [.string s] from rfl))).below b3).own (by rw [List.flatten_append,List.flatten_singleton];exact ho3.lower (Nat.le_trans R1.out.bp (Nat.le_of_lt hplt))) (by simp))
  have L3:=hid (fun k hk=>(ho3.lt k hk).1)
  clear ho3 hg3 b3 k0
  go_wp2
  go_ret2
  unfold RSortPost
  rw [if_neg (by rw [hb];decide)]
  obtain ⟨t1,s1⟩:=R1.out.setSorts hblk'.out (below_grown B3.out) (.inr L3.out) O3.out
  refine⟨⟨?_,t1⟩,(PStep.of_below h'.out.plt B1.out).trans s1⟩
  simp
  omega
end Go.Proofs.YtgoojkiccdjplaaGreatDoor
