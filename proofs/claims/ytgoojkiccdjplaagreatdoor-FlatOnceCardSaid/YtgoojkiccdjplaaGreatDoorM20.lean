/-
  Parts of this claim's texts, one behind the other: ZE ZF RA SP RB SH. No condition.
-/
import Derived.Test.YtgoojkiccdjplaaGreatDoorM19
import Derived.Test.YtgoojkiccdjplaaGreatDoorM3
import Derived.Test.YtgoojkiccdjplaaGreatDoorM2
import Derived.BigRegion
set_option linter.unusedVariables false
set_option linter.unusedSimpArgs false
set_option maxRecDepth 100000
set_option maxHeartbeats 16000000
namespace Go.Proofs.YtgoojkiccdjplaaGreatDoor
open Go.RowKit Go.Sort Go.Lib
theorem app_args (w:World) (nm:ByteArray) (hn:nm.size≤1000000):MArgs w nm noRat [] 12 none none none 0 0 0:=
 ⟨SlR.nil _ _ _ _,SlR.nil _ _ _ _,SlR.nil _ _ _ _,⟨Nat.le_refl _,Nat.zero_le _⟩,⟨Nat.le_refl _,Nat.zero_le _⟩,⟨Nat.le_refl _,Nat.zero_le _⟩,by decide,hn,⟨by decide,by decide⟩,fun e=>by cases e⟩
variable {X : Nat → Prop} {B p : Nat} {T : TabD} {w w' W : World} {v1 v2 v3 v' : Value}
structure RefX (X:Nat→Prop) (B p:Nat) (T:TabD) (w:World):Prop where
 bp:B≤p
 xlt:∀k,X k→k<w.heap.size
 blk:∃v1 v2 v3,w.heap[p]? = some (.cells #[v1,v2,v3] 107 (0,0))∧OwnR Rep.str (fun _=>False) w B 9 v1 T.sorts∧OwnR repF (IntX X w) w B 114 v2 T.funs∧OwnR repM (fun _=>False) w B 329 v3 T.marks
theorem RefX.plt (h:RefX X B p T w):p<w.heap.size:=by obtain ⟨v1,v2,v3,hb,_⟩:=h.blk;exact(Array.getElem?_eq_some_iff.1 hb).1
theorem RefX.ownB (h:RefX X B p T w) {k:Nat} (hk:ownOf w p k):B≤k∧k<w.heap.size:=by
 obtain ⟨v1,v2,v3,hb,h1,h2,h3⟩:=h.blk
 rcases (own3 hb).1 hk with rfl | hk | hk | hk
 ·exact⟨h.bp,h.plt⟩
 ·exact h1.lt k hk
 ·exact h2.lt k hk
 ·exact h3.lt k hk
theorem RefX.ownI (h:RefX X B p T w) {k:Nat} (hk:ownOf w p k):¬IntX X w k:=fun hi=>by
 obtain ⟨v1,v2,v3,hb,h1,h2,h3⟩:=h.blk
 rcases (own3 hb).1 hk with rfl | hk | hk | hk
 ·exact ty_ne (by decide) ⟨_,_,hb⟩ hi.2
 ·exact ty_ne (by decide) (h1.ty k hk) hi.2
 ·exact ty_ne (by decide) (h2.ty k hk) hi.2
 ·exact ty_ne (by decide) (h3.ty k hk) hi.2
theorem RefX.keep (h:RefX X B p T w) (hk:∀k,ownOf w p k→w'.heap[k]? = w.heap[k]?) (hi:∀k,IntX X w k→w'.heap[k]? = w.heap[k]?) (hs:w.heap.size≤w'.heap.size):RefX X B p T w':=by
 obtain ⟨v1,v2,v3,hb,h1,h2,h3⟩:=h.blk
 refine⟨h.bp,fun k hx=>Nat.lt_of_lt_of_le (h.xlt k hx) hs,v1,v2,v3,(hk p (.inl rfl)).trans hb,h1.keep (fun _ _ h=>h.elim) (fun k e=>hk k ((own3 hb).2 (.inr (.inl e)))) hs,h2.keepI hi (fun k e=>hk k ((own3 hb).2 (.inr (.inr (.inl e))))) hs,h3.keep (fun _ _ h=>h.elim) (fun k e=>hk k ((own3 hb).2 (.inr (.inr (.inr e))))) hs⟩
theorem RefX.all (h:RefX X B p T w) (hb:Below w.heap.size w w'):RefX X B p T w':=h.keep (fun k hk=>hb.block k (h.ownB hk).2) (fun k hk=>hb.block k hk.lt) hb.size
theorem RefX.stepBelow (h:RefX X B p T w) (hs:PStep p w w'):Below B w w':=hs.below (Nat.le_trans h.bp (Nat.le_of_lt h.plt)) fun _ hk=>(h.ownB hk).1
theorem RefX.setSorts (h:RefX X B p T w) (hb:w.heap[p]? = some (.cells #[v1,v2,v3] 107 (0,0))) (hg:w.grownBy W v1.ownBlock) (hloc:v'.ownBlock=v1.ownBlock∨∀k,v'.ownBlock=some k→w.heap.size≤k) {l:List ByteArray} (ho:OwnR Rep.str (fun _=>False) W B 9 v' l) :
  RefX X B p { T with sorts:=l } (W.setCell ⟨p,0,none⟩ v')∧PStep p w (W.setCell ⟨p,0,none⟩ v'):=by
 obtain ⟨u1,u2,u3,hb',h1,h2,h3⟩:=h.blk
 rw [hb] at hb'
 cases hb'
 have hp1:v1.ownBlock≠some p:=fun e=>ty_ne (by decide) (h1.ty p e) ⟨_,_,hb⟩
 have hp2:v2.ownBlock≠some p:=fun e=>ty_ne (by decide) (h2.ty p e) ⟨_,_,hb⟩
 have hp3:v3.ownBlock≠some p:=fun e=>ty_ne (by decide) (h3.ty p e) ⟨_,_,hb⟩
 obtain ⟨s1,s2,s3⟩:=setField (v':=v') hb (i:=0) rfl hg hp1 hloc
 have hpW:W.heap[p]? = w.heap[p]?:=hg.block p h.plt (Ne.symm hp1)
 have hp':v'.ownBlock≠some p:=fun e=>ty_ne (by decide) (ho.ty p e) ⟨_,_,hpW.trans hb⟩
 have hsz:(W.setCell ⟨p,0,none⟩ v').heap.size=W.heap.size:=by simp [World.setCell]
 refine⟨⟨h.bp,fun k hx=>Nat.lt_of_lt_of_le (h.xlt k hx) (Nat.le_trans hg.size (Nat.le_of_eq hsz.symm)),v',v2,v3,s2,ho.keep (fun _ _ h=>h.elim) (fun k hk=>s3 k fun e=>hp' (by rw [←e];exact hk)) (Nat.le_of_eq hsz.symm),h2.keepI (fun k hk=>?_) (fun k hk=>?_) (by rw [hsz];exact hg.size),h3.keep (fun _ _ h=>h.elim) (fun k hk=>?_) (by rw [hsz];exact hg.size)⟩,s1⟩
 ·rw [s3 k fun e=>by subst e;exact ty_ne (by decide) ⟨_,_,hb⟩ hk.2]
  exact hg.block k hk.lt fun e=>ty_ne (by decide) (h1.ty k e.symm) hk.2
 ·rw [s3 k fun e=>hp2 (by rw [←e];exact hk)]
  exact hg.block k (h2.lt k hk).2 fun e=>own_ty_ne h2 h1 (by decide) hk e.symm
 ·rw [s3 k fun e=>hp3 (by rw [←e];exact hk)]
  exact hg.block k (h3.lt k hk).2 fun e=>own_ty_ne h3 h1 (by decide) hk e.symm
theorem RefX.setFuns (h:RefX X B p T w) (hb:w.heap[p]? = some (.cells #[v1,v2,v3] 107 (0,0))) (hg:w.grownBy W v2.ownBlock) (hloc:v'.ownBlock=v2.ownBlock∨∀k,v'.ownBlock=some k→w.heap.size≤k) {l:List FunD} (ho:OwnR repF (IntX X W) W B 114 v' l) :
  RefX X B p { T with funs:=l } (W.setCell ⟨p,1,none⟩ v')∧PStep p w (W.setCell ⟨p,1,none⟩ v'):=by
 obtain ⟨u1,u2,u3,hb',h1,h2,h3⟩:=h.blk
 rw [hb] at hb'
 cases hb'
 have hp1:v1.ownBlock≠some p:=fun e=>ty_ne (by decide) (h1.ty p e) ⟨_,_,hb⟩
 have hp2:v2.ownBlock≠some p:=fun e=>ty_ne (by decide) (h2.ty p e) ⟨_,_,hb⟩
 have hp3:v3.ownBlock≠some p:=fun e=>ty_ne (by decide) (h3.ty p e) ⟨_,_,hb⟩
 obtain ⟨s1,s2,s3⟩:=setField (v':=v') hb (i:=1) rfl hg hp2 hloc
 have hpW:W.heap[p]? = w.heap[p]?:=hg.block p h.plt (Ne.symm hp2)
 have hp':v'.ownBlock≠some p:=fun e=>ty_ne (by decide) (ho.ty p e) ⟨_,_,hpW.trans hb⟩
 have hsz:(W.setCell ⟨p,1,none⟩ v').heap.size=W.heap.size:=by simp [World.setCell]
 refine⟨⟨h.bp,fun k hx=>Nat.lt_of_lt_of_le (h.xlt k hx) (Nat.le_trans hg.size (Nat.le_of_eq hsz.symm)),v1,v',v3,s2,h1.keep (fun _ _ h=>h.elim) (fun k hk=>?_) (by rw [hsz];exact hg.size),ho.keepI (fun k hk=>s3 k fun e=>?_) (fun k hk=>s3 k fun e=>hp' (by rw [←e];exact hk)) (Nat.le_of_eq hsz.symm),h3.keep (fun _ _ h=>h.elim) (fun k hk=>?_) (by rw [hsz];exact hg.size)⟩,s1⟩
 ·rw [s3 k fun e=>hp1 (by rw [←e];exact hk)]
  exact hg.block k (h1.lt k hk).2 fun e=>own_ty_ne h1 h2 (by decide) hk e.symm
 ·subst e;exact ty_ne (by decide) ⟨_,_,hpW.trans hb⟩ hk.2
 ·rw [s3 k fun e=>hp3 (by rw [←e];exact hk)]
  exact hg.block k (h3.lt k hk).2 fun e=>own_ty_ne h3 h2 (by decide) hk e.symm
theorem RefX.look {B p:Nat} {T:TabD} {w:World} (h:RefX X B p T w):∃a1 c1 a2 c2 a3 c3,w.heap[p]? = some (.cells #[.slice a1 T.sorts.length c1,.slice a2 T.funs.length c2,.slice a3 T.marks.length c3] 107 (0,0)) ∧
  OwnR Rep.str (fun _=>False) w B 9 (.slice a1 T.sorts.length c1) T.sorts∧OwnR repF (IntX X w) w B 114 (.slice a2 T.funs.length c2) T.funs∧OwnR repM (fun _=>False) w B 329 (.slice a3 T.marks.length c3) T.marks:=by
 obtain ⟨v1,v2,v3,hb,h1,h2,h3⟩:=h.blk
 obtain ⟨a1,c1,rfl,_⟩:=h1.slice
 obtain ⟨a2,c2,rfl,_⟩:=h2.slice
 obtain ⟨a3,c3,rfl,_⟩:=h3.slice
 exact⟨a1,c1,a2,c2,a3,c3,hb,h1,h2,h3⟩
def sameI (xs ys:List Int):Bool:=decide (xs=ys)
theorem sameI_len {xs ys:List Int} (h:xs.length≠ys.length):false=sameI xs ys:=by
 unfold sameI;symm;rw [decide_eq_false_iff_not];rintro rfl;exact h rfl
theorem ints_any (a b:Option Addr) (n m c d:Nat) (xs ys:List Int) (w:World) (hx:RdI w a n xs) (hy:RdI w b m ys) (hn:n<4611686018427387904) :
  Calls Tryz.prog 30 #[.slice a n c,.slice b m d] w fun e w'=>e = .returned (.bool (sameI xs ys))∧∃q,w'=w.drewN q:=by
 have lx:=hid hx.len
 have ly:=hid hy.len
 have hx':=hid hx
 have hy':=hid hy
 clear hx hy
 by_cases h:n=m
 ·subst h
  go_enter Tryz.func30,Tryz.ntmps30
  go_wp2
  go_loopw [5] (fun i wr=>∃k:Nat,k≤n∧i = .int .i64 k∧Hid (∀j,j<k→nth xs j=nth ys j)∧∃q,wr=w.drewN q) (fun i _=>n - (intOf i).toNat)
  case atStart=>exact⟨0,Nat.zero_le _,rfl,by intro j hj;omega,0,rfl⟩
  case round=>
   obtain ⟨k,hk,rfl,heq,q,rfl⟩:=hrel
   by_cases hlt:k<n
   ·obtain ⟨b1,o1,rfl,h1⟩:=hx'.out.at k hlt
    obtain ⟨b2,o2,rfl,h2⟩:=hy'.out.at k hlt
    by_cases he:nth xs k=nth ys k
    ·have hb:(nth xs k != nth ys k)=false:=by rw [he];simp
     have he':=hid he
     clear he
     go_wp2
     go_quiet (fail)
     go_wp2
     go_roundw
     case rel=>
      refine⟨k+1,by omega,by go_num,?_,_,rfl⟩
      intro j hj
      by_cases hj':j<k
      ·exact heq.out j hj'
      ·obtain rfl:j=k:=by omega
       exact he'.out
     case measure=>simp [intOf];omega
    ·have hb:(nth xs k != nth ys k)=true:=by simpa using he
     go_wp2
     go_quiet (fail)
     go_wp2
     go_ret
     refine⟨ret_bool ?_,q+nq,by rw [World.drewN_drewN]⟩
     symm;unfold sameI;rw [decide_eq_false_iff_not];rintro rfl;exact he rfl
   ·go_wp2
    go_ret
    refine⟨ret_bool ?_,_,rfl⟩
    symm;unfold sameI;rw [decide_eq_true_iff]
    exact ext_nth (by rw [lx.out,ly.out]) (fun j hj=>heq.out j (by have:=lx.out;omega))
 ·have h2:((n:Int) == (m:Int))=false:=by simp;omega
  have h3:((n:Int) != (m:Int))=true:=by simp;omega
  go_enter Tryz.func30,Tryz.ntmps30
  go_wp2
  go_ret
  exact⟨ret_bool (sameI_len (by rw [lx.out,ly.out];exact h)),0,rfl⟩
variable {X : Nat → Prop}
theorem toList_inj {a b:ByteArray} (h:a.toList=b.toList):a=b:=by
 rw [Lib.toList_data,Lib.toList_data] at h
 cases a;cases b
 simp at h
 rw [ByteArray.mk.injEq]
 exact h
theorem eqb_iff {a b:ByteArray}:(a.toList == b.toList)=true↔a=b:=⟨fun h=>toList_inj (by simpa using h),fun h=>by subst h;simp⟩
theorem eqb_no {a b:ByteArray} (h:(a.toList == b.toList)=false):a≠b:=fun e=>by subst e;simp at h
theorem resB_iff (s:ByteArray):resB s=true↔s∈resWords:=Lib.containsS_iff resWords s
theorem rreserved_any (s:ByteArray) (w:World):Calls Tryz.prog 155 #[.string s] w fun e w'=>e = .returned (.bool (resB s))∧Below w.heap.size w w':=by
 have hri:=hid (resB_iff s)
 have hl:resWords.length=27:=by decide
 have hl':=hid hl
 have hc:=hid (show ∀k,k<27→(w.alloc (.cells (resWords.map Value.string).toArray 9)).cell? ⟨w.heap.size,k,none⟩=some (.string (resWords.getD k ByteArray.empty)) from fun k hk=>by
  rw [World.cell?_alloc_new]
  simp [List.getD,hl,hk])
 clear hl
 go_enter Tryz.func155,Tryz.ntmps155
 go_wp2
 go_loopw [2,4] (fun _ i wr=>∃k:Nat,k≤27∧i = .int .i64 k∧wr=w.alloc (.cells (resWords.map Value.string).toArray 9)∧Hid (∀j,j<k→resWords.getD j ByteArray.empty≠s)) (fun _ i _=>27 - (intOf i).toNat)
 case atStart=>exact⟨0,Nat.zero_le _,rfl,by rfl,by intro j hj;omega⟩
 case round=>
  obtain ⟨k,hk,rfl,rfl,hne⟩:=hrel
  have hB:Below w.heap.size w (w.alloc (.cells (resWords.map Value.string).toArray 9)):=(Below.refl _ _).alloc (Nat.le_refl _) _
  have hB':=hid hB
  clear hB
  by_cases hlt:k<27
  ·have h1:=hc.out k hlt
   have hmem:=hid (show resWords.getD k ByteArray.empty∈resWords by
    have:k<resWords.length:=by rw [hl'.out];exact hlt
    simp [List.getD,this])
   have hnx:=hid (fun(h:resWords.getD k ByteArray.empty≠s)=>show ∀j,j<k+1→resWords.getD j ByteArray.empty≠s from fun j hj=>by
    by_cases e:j=k
    ·subst e;exact h
    ·exact hne.out j (by omega))
   generalize resWords.getD k ByteArray.empty=z at *
   generalize w.alloc (.cells (resWords.map Value.string).toArray 9)=w1 at *
   cases he:(z.toList == s.toList)
   ·have hv:=hid (hnx.out (eqb_no he))
    go_wp2
    go_roundw
    case rel=>exact⟨k+1,by omega,by go_num,by trivial,hv.out⟩
    case measure=>simp [intOf];omega
   ·have hv:=@hid (true=resB s) (by symm;rw [hri.out,←eqb_iff.1 he];exact hmem.out)
    go_wp2
    go_ret
    exact⟨ret_bool hv.out,hB'.out⟩
  ·have hv:=@hid (false=resB s) (by
    symm
    cases hr:resB s
    ·rfl
    ·have hm:=hri.out.1 hr
     obtain ⟨j,hj,e⟩:=List.getElem_of_mem hm
     have hj2:j<27:=by rw [←hl'.out];exact hj
     exact absurd (show resWords.getD j ByteArray.empty=s by simp [List.getD,hj,e]) (hne.out j (by omega)))
   go_wp2
   go_ret
   exact⟨ret_bool hv.out,hB'.out⟩
theorem rname_any (s:ByteArray) (w:World):Calls Tryz.prog 108 #[.string s] w fun e w'=>e = .returned (.bool (mayB s))∧Below w.heap.size w w':=by
 have hd:=@hid (mayB s=(!s.toList.isEmpty && (decide (s.size≤200) && !resB s))) rfl
 have hem:=@hid (s.toList.isEmpty=decide (s.size=0)) (by
  rw [Lib.toList_data]
  have:s.size=s.data.toList.length:=by simp
  rw [this]
  cases s.data.toList <;> simp)
 have hr:=hid (rreserved_any s w)
 by_cases h0:1≤s.size
 ·have h0i:(1:Int)≤s.size:=by omega
  by_cases h2:s.size≤200
  ·have h2i:(s.size:Int)≤200:=by omega
   have hv:=@hid (mayB s = !resB s) (by rw [hd.out,hem.out];simp [h2,show ¬s.size=0 by omega])
   go_enter Tryz.func108,Tryz.ntmps108
   go_wp2_with fail
   refine hr.out.mono ?_;rintro e w1 ⟨rfl,hb⟩
   have hb':=hid hb
   clear hb
   go_wp2
   go_ret
   exact⟨ret_bool hv.out.symm,hb'.out⟩
  ·have h2i:¬(s.size:Int)≤200:=by omega
   have hv:=@hid (false=mayB s) (by rw [hd.out];simp [h2])
   go_enter Tryz.func108,Tryz.ntmps108
   go_wp2
   go_ret
   exact⟨ret_bool hv.out,Below.refl _ _⟩
 ·have h0i:¬(1:Int)≤s.size:=by omega
  have hv:=@hid (false=mayB s) (by rw [hd.out,hem.out];simp [show s.size=0 by omega])
  go_enter Tryz.func108,Tryz.ntmps108
  go_wp2
  go_ret
  exact⟨ret_bool hv.out,Below.refl _ _⟩
theorem ris_any (B p:Nat) (T:TabD) (s:Int) (w:World) (h:RefX X B p T w) (hl:T.sorts.length<1099511627776):Calls Tryz.prog 113 #[.pointer (some ⟨p,0,none⟩),.int .i64 s] w fun e w'=>e = .returned (.bool (isB T.sorts.length s))∧w=w':=by
 obtain ⟨a1,c1,a2,c2,a3,c3,hb,_⟩:=h.look
 have k0:w.cell? ⟨p,0,none⟩=some (.slice a1 T.sorts.length c1):=cell_p hb 0
 have hd:=@hid (isB T.sorts.length s=(decide (0≤s) && decide (s<2+(T.sorts.length:Int)))) rfl
 clear hb h
 generalize T.sorts.length=n at *
 by_cases h1:0≤s
 ·have hv:=@hid (decide (s<(n:Int)+2)=isB n s) (by rw [hd.out,Int.add_comm];simp [h1])
  go_enter Tryz.func113,Tryz.ntmps113
  go_wp2
  go_ret
  exact⟨ret_bool hv.out,rfl⟩
 ·have hv:=@hid (false=isB n s) (by rw [hd.out];simp [h1])
  go_enter Tryz.func113,Tryz.ntmps113
  go_wp2
  go_ret
  exact⟨ret_bool hv.out,rfl⟩
theorem idxS_skip {x : ByteArray} : ∀ {zs : List ByteArray} {k i : Nat}, (∀ j, j < k → zs.getD j ByteArray.empty ≠ x) → k ≤ zs.length → Lib.idxFromS zs x i = Lib.idxFromS (zs.drop k) x (i + k)
  | zs, 0, i, _, _ => by simp
  | [], k + 1, i, _, hk => by simp at hk
  | z :: zs, k + 1, i, h, hk => by
    have h0 : z ≠ x := h 0 (by omega)
    rw [List.drop_succ_cons, ← Nat.add_assoc, Nat.add_right_comm, ← idxS_skip (zs := zs) (k := k) (i := i + 1) (fun j hj => by simpa using h (j + 1) (by omega)) (by simpa using hk)]
    rw [Lib.idxFromS]
    simp [h0]
theorem idxS_hit {zs:List ByteArray} {x:ByteArray} {k:Nat} (h:∀j,j<k→zs.getD j ByteArray.empty≠x) (hk:k<zs.length) (hx:zs.getD k ByteArray.empty=x):Lib.idxOfS zs x=k:=by
 show Lib.idxFromS zs x 0=k
 rw [idxS_skip h (Nat.le_of_lt hk),Nat.zero_add,List.drop_eq_getElem_cons hk]
 have e:zs[k]=x:=by simpa [List.getD,hk] using hx
 rw [Lib.idxFromS]
 simp [e]
theorem idxS_miss {zs:List ByteArray} {x:ByteArray} (h:∀j,j<zs.length→zs.getD j ByteArray.empty≠x):Lib.idxOfS zs x = -1:=by
 show Lib.idxFromS zs x 0 = -1
 rw [idxS_skip h (Nat.le_refl _),List.drop_length];rfl
theorem rfindSort_any (B p:Nat) (T:TabD) (s:ByteArray) (w:World) (h:RefX X B p T w) (hl:T.sorts.length<1099511627776) :
  Calls Tryz.prog 107 #[.pointer (some ⟨p,0,none⟩),.string s] w fun e w'=>e = .returned (.tuple #[.int .i64 (findSort T s).1,.bool (findSort T s).2])∧w=w':=by
 obtain ⟨a1,c1,a2,c2,a3,c3,hb,o1,_⟩:=h.look
 have k0:w.cell? ⟨p,0,none⟩=some (.slice a1 T.sorts.length c1):=cell_p hb 0
 have hrd:=hid (o1.read (S':=fun _=>True) (fun _ _ _=>trivial) (fun _ _=>trivial))
 have hd:=@hid (findSort T s=if s.toList == [66,111,111,108] then(0,true) else if s.toList == [82,101,97,108] then(1,true) else if Lib.idxOfS T.sorts s<0 then(0,false) else(2+Lib.idxOfS T.sorts s,true)) rfl
 clear hb h o1
 cases e1:(s.toList == [66,111,111,108])
 case true=>
  have hv:=@hid (findSort T s=(0,true)) (by rw [hd.out,e1];rfl)
  go_enter Tryz.func107,Tryz.ntmps107
  go_wp2
  go_ret2
  exact⟨by rw [hv.out] <;> rfl,rfl⟩
 case false=>
 cases e2:(s.toList == [82,101,97,108])
 case true=>
  have hv:=@hid (findSort T s=(1,true)) (by rw [hd.out,e1,e2];rfl)
  go_enter Tryz.func107,Tryz.ntmps107
  go_wp2
  go_ret2
  exact⟨by rw [hv.out] <;> rfl,rfl⟩
 case false=>
 have hd2:=@hid (findSort T s=if Lib.idxOfS T.sorts s<0 then(0,false) else(2+Lib.idxOfS T.sorts s,true)) (by rw [hd.out,e1,e2];rfl)
 clear hd
 generalize T.sorts=zs at *
 go_enter Tryz.func107,Tryz.ntmps107
 go_wp2
 go_loopw [4,5,6] (fun _ _ i wr=>∃k:Nat,k≤zs.length∧i = .int .i64 k∧wr=w∧Hid (∀j,j<k→zs.getD j ByteArray.empty≠s)) (fun _ _ i _=>zs.length - (intOf i).toNat)
 case atStart=>exact⟨0,Nat.zero_le _,rfl,rfl,by intro j hj;omega⟩
 case round=>
  obtain ⟨k,hk,rfl,rfl,hne⟩:=hrel
  by_cases hlt:k<zs.length
  ·obtain ⟨b,o,rfl,hc⟩:=hrd.out.strs (by omega)
   have h1:=hc k hlt
   have hnx:=hid (fun(h:zs.getD k ByteArray.empty≠s)=>show ∀j,j<k+1→zs.getD j ByteArray.empty≠s from fun j hj=>by
    by_cases e:j=k
    ·subst e;exact h
    ·exact hne.out j (by omega))
   have hhit:=hid (fun h=>idxS_hit (x:=s) (fun j hj=>hne.out j hj) hlt h)
   clear hc
   generalize zs.getD k ByteArray.empty=z at *
   cases he:(z.toList == s.toList)
   ·have hv:=hid (hnx.out (eqb_no he))
    go_wp2
    go_roundw
    case rel=>exact⟨k+1,by omega,by go_num,by trivial,hv.out⟩
    case measure=>simp [intOf];omega
   ·have hv:=@hid (findSort T s=((k:Int)+2,true)) (by rw [hd2.out,hhit.out (eqb_iff.1 he),if_neg (by omega),Int.add_comm])
    go_wp2
    go_ret2
    exact⟨by rw [hv.out] <;> rfl,rfl⟩
  ·have hv:=@hid (findSort T s=(0,false)) (by rw [hd2.out,idxS_miss (fun j hj=>hne.out j (by omega))];rfl)
   go_wp2
   go_ret2
   exact⟨by rw [hv.out] <;> rfl,rfl⟩
end Go.Proofs.YtgoojkiccdjplaaGreatDoor
