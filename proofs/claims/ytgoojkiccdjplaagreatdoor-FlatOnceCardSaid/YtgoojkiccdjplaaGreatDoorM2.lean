/-
  Parts of this claim's texts, one behind the other: SB SC SD SE SF. No condition.
-/
import Derived.Test.YtgoojkiccdjplaaGreatDoorM1
set_option linter.unusedVariables false
set_option linter.unusedSimpArgs false
set_option maxRecDepth 100000
set_option maxHeartbeats 16000000
namespace Go.Proofs.YtgoojkiccdjplaaGreatDoor
open Go.RowKit Go.Sort Go.Lib
structure FunD where
 name:ByteArray
 args:List Int
 res:Int
def repF:Rep FunD:=Rep.map (fun f=>(f.name,f.args,f.res)) (.prod .str (.prod (.slice .int) .int))
def repM:Rep (Nat × Nat):=Rep.map (fun m=>((m.1:Int),(m.2:Int))) (.prod .int .int)
theorem repF_k:repF.k=3:=rfl
theorem repS_k:Rep.str.k=1:=rfl
def okI (x:Int):Prop:=-9223372036854775808≤x∧x≤9223372036854775807
theorem repF_rd {S:Nat→Prop} {w:World} {f:FunD} {cs:List Value}:repF.rd S w f cs↔∃a n c,cs = [.string f.name,.slice a n c,.int .i64 f.res]∧n≤c∧c≤maxLen∧SlR Rep.int S w a n f.args∧okI f.res:=by
 constructor
 ·rintro ⟨c,d,rfl,h1,c',d',rfl,⟨a,n,cc,h2,h3,h4,h5⟩,h6,h7⟩
  have h1':c = [.string f.name]:=h1
  have h6':d' = [.int .i64 f.res]:=h6
  subst h1' h2 h6'
  exact⟨a,n,cc,rfl,h3,h4,h5,h7⟩
 ·rintro ⟨a,n,c,rfl,h3,h4,h5,h6⟩
  exact⟨[.string f.name],_,rfl,rfl,[.slice a n c],_,rfl,⟨a,n,c,rfl,h3,h4,h5⟩,rfl,h6⟩
def IntX (X:Nat→Prop) (w:World) (k:Nat):Prop:=¬X k∧∃cs f,w.heap[k]? = some (.cells cs 3 f)
theorem IntX.lt {X:Nat→Prop} {w:World} {k:Nat} (h:IntX X w k):k<w.heap.size:=by obtain ⟨_,cs,f,h⟩:=h;exact(Array.getElem?_eq_some_iff.1 h).1
structure TabD where
 sorts:List ByteArray
 funs:List FunD
 marks:List (Nat × Nat)
structure TabX (X:Nat→Prop) (B p:Nat) (T:TabD) (w:World):Prop where
 bp:B≤p
 xlt:∀k,X k→k<w.heap.size
 blk:∃v1 v2 v3,w.heap[p]? = some (.cells #[v1,v2,v3] 168 (0,0))∧OwnR Rep.str (fun _=>False) w B 9 v1 T.sorts∧OwnR repF (IntX X w) w B 114 v2 T.funs∧OwnR repM (fun _=>False) w B 330 v3 T.marks
abbrev TabIs:=TabX fun _=>False
section
variable {X : Nat → Prop} {B p : Nat} {T : TabD} {w w' W : World}
theorem TabX.plt (h:TabX X B p T w):p<w.heap.size:=by obtain ⟨v1,v2,v3,hb,_⟩:=h.blk;exact(Array.getElem?_eq_some_iff.1 hb).1
theorem own3 {t:TypeId} {f:Nat × Nat} {v1 v2 v3:Value} (hb:w.heap[p]? = some (.cells #[v1,v2,v3] t f)) {k:Nat}:ownOf w p k↔k=p∨v1.ownBlock=some k∨v2.ownBlock=some k∨v3.ownBlock=some k:=by
 unfold ownOf
 constructor
 ·rintro (h | ⟨cs,t',f',h,v,hv,hk⟩)
  ·exact .inl h
  ·rw [hb] at h
   cases h
   simp at hv
   rcases hv with rfl | rfl | rfl
   ·exact .inr (.inl hk)
   ·exact .inr (.inr (.inl hk))
   ·exact .inr (.inr (.inr hk))
 ·rintro (h | h | h | h)
  ·exact .inl h
  ·exact .inr ⟨_,_,_,hb,v1,by simp,h⟩
  ·exact .inr ⟨_,_,_,hb,v2,by simp,h⟩
  ·exact .inr ⟨_,_,_,hb,v3,by simp,h⟩
theorem TabX.ownB (h:TabX X B p T w) {k:Nat} (hk:ownOf w p k):B≤k∧k<w.heap.size:=by
 obtain ⟨v1,v2,v3,hb,h1,h2,h3⟩:=h.blk
 rcases (own3 hb).1 hk with rfl | hk | hk | hk
 ·exact⟨h.bp,h.plt⟩
 ·exact h1.lt k hk
 ·exact h2.lt k hk
 ·exact h3.lt k hk
theorem ty_ne {k:Nat} {t t':TypeId} (hne:t≠t') (h:∃cs f,w.heap[k]? = some (.cells cs t f)) (h':∃cs f,w.heap[k]? = some (.cells cs t' f)):False:=by
 obtain ⟨cs,f,h⟩:=h
 obtain ⟨cs',f',h'⟩:=h'
 rw [h] at h'
 injection h' with h'
 injection h' with _ h'
 exact hne h'
theorem TabX.ownI (h:TabX X B p T w) {k:Nat} (hk:ownOf w p k):¬IntX X w k:=fun hi=>by
 obtain ⟨v1,v2,v3,hb,h1,h2,h3⟩:=h.blk
 rcases (own3 hb).1 hk with rfl | hk | hk | hk
 ·exact ty_ne (by decide) ⟨_,_,hb⟩ hi.2
 ·exact ty_ne (by decide) (h1.ty k hk) hi.2
 ·exact ty_ne (by decide) (h2.ty k hk) hi.2
 ·exact ty_ne (by decide) (h3.ty k hk) hi.2
theorem IntX.same {k:Nat} (h:IntX X w k) (hb:w'.heap[k]? = w.heap[k]?):IntX X w' k:=by obtain ⟨hx,cs,f,h⟩:=h;exact⟨hx,cs,f,hb.trans h⟩
theorem OwnR.keepI {v:Value} {fs:List FunD} (h:OwnR repF (IntX X w) w B 114 v fs) (hi:∀k,IntX X w k→w'.heap[k]? = w.heap[k]?) (hv:∀k,v.ownBlock=some k→w'.heap[k]? = w.heap[k]?) (hs:w.heap.size≤w'.heap.size):OwnR repF (IntX X w') w' B 114 v fs:=
 (h.keep (fun b _ hb=>hi b hb) hv hs).mono fun b _ hb=>hb.same (hi b hb)
theorem TabX.keep (h:TabX X B p T w) (hk:∀k,ownOf w p k→w'.heap[k]? = w.heap[k]?) (hi:∀k,IntX X w k→w'.heap[k]? = w.heap[k]?) (hs:w.heap.size≤w'.heap.size):TabX X B p T w':=by
 obtain ⟨v1,v2,v3,hb,h1,h2,h3⟩:=h.blk
 refine⟨h.bp,fun k hx=>Nat.lt_of_lt_of_le (h.xlt k hx) hs,v1,v2,v3,(hk p (.inl rfl)).trans hb,h1.keep (fun _ _ h=>h.elim) (fun k e=>hk k ((own3 hb).2 (.inr (.inl e)))) hs,h2.keepI hi (fun k e=>hk k ((own3 hb).2 (.inr (.inr (.inl e))))) hs,h3.keep (fun _ _ h=>h.elim) (fun k e=>hk k ((own3 hb).2 (.inr (.inr (.inr e))))) hs⟩
theorem TabX.all (h:TabX X B p T w) (hb:Below w.heap.size w w'):TabX X B p T w':=h.keep (fun k hk=>hb.block k (h.ownB hk).2) (fun k hk=>hb.block k hk.lt) hb.size
theorem TabX.stepBelow (h:TabX X B p T w) (hs:PStep p w w'):Below B w w':=hs.below (Nat.le_trans h.bp (Nat.le_of_lt h.plt)) fun _ hk=>(h.ownB hk).1
end
section
variable {w W : World} {p i : Nat} {cs : Array Value} {t : TypeId} {v v' : Value}
theorem setField (hb:w.heap[p]? = some (.cells cs t (0,0))) (hi:cs[i]? = some v) (hg:w.grownBy W v.ownBlock) (hp:v.ownBlock≠some p) (hloc:v'.ownBlock=v.ownBlock∨∀k,v'.ownBlock=some k→w.heap.size≤k) :
  PStep p w (W.setCell ⟨p,i,none⟩ v')∧(W.setCell ⟨p,i,none⟩ v').heap[p]? = some (.cells (cs.setIfInBounds i v') t (0,0))∧∀k,k≠p→(W.setCell ⟨p,i,none⟩ v').heap[k]? = W.heap[k]?:=by
 have hlt:=(Array.getElem?_eq_some_iff.1 hb).1
 have hbW:W.heap[p]? = some (.cells cs t (0,0)):=(hg.block p hlt (Ne.symm hp)).trans hb
 have h1:(W.setCell ⟨p,i,none⟩ v').heap[p]? = some (.cells (cs.setIfInBounds i v') t (0,0)):=by
  unfold World.setCell
  rw [Array.getElem?_modify,if_pos rfl,hbW]
  rfl
 have h2:∀k,k≠p→(W.setCell ⟨p,i,none⟩ v').heap[k]? = W.heap[k]?:=fun k hk=>Below.heap_setCell _ _ _ _ (fun e=>hk e)
 have hil:i<cs.size:=(Array.getElem?_eq_some_iff.1 hi).1
 refine⟨⟨hg.os,hg.tape,hg.output,by simpa [World.setCell] using hg.size,fun k hk hn=>?_⟩,h1,h2⟩
 have hkp:k≠p:=fun e=>hn (.inl e)
 have hkv:v.ownBlock≠some k:=fun e=>hn (.inr ⟨_,_,_,hb,v,by rw [Array.mem_iff_getElem?];exact⟨i,hi⟩,e⟩)
 refine⟨(h2 k hkp).trans (hg.block k hk (Ne.symm hkv)),?_⟩
 rintro (e | ⟨cs',t',f',e,u,hu,hk2⟩)
 ·exact hkp e
 ·rw [h1] at e
  cases e
  rw [Array.mem_iff_getElem?] at hu
  obtain ⟨j,hj⟩:=hu
  rw [Array.getElem?_setIfInBounds] at hj
  by_cases hij:i=j
  ·subst hij
   rw [if_pos rfl,if_pos hil] at hj
   cases hj
   rcases hloc with e | e
   ·exact hkv (by rw [←e];exact hk2)
   ·have:=e k hk2;omega
  ·rw [if_neg hij] at hj
   exact hn (.inr ⟨_,_,_,hb,u,by rw [Array.mem_iff_getElem?];exact⟨j,hj⟩,hk2⟩)
end
section
variable {X : Nat → Prop} {B p : Nat} {T : TabD} {w W : World} {v1 v2 v3 v' : Value}
theorem own_ty_ne {α β:Type} {R:Rep α} {Q:Rep β} {S S':Nat→Prop} {e e':TypeId} {v v':Value} {xs:List α} {ys:List β} {B B':Nat} (h:OwnR R S w B e v xs) (h':OwnR Q S' w B' e' v' ys) (hne:e≠e') {k:Nat} (hk:v.ownBlock=some k):v'.ownBlock≠some k:=
 fun e2=>ty_ne hne (h.ty k hk) (h'.ty k e2)
theorem TabX.setSorts (h:TabX X B p T w) (hb:w.heap[p]? = some (.cells #[v1,v2,v3] 168 (0,0))) (hg:w.grownBy W v1.ownBlock) (hloc:v'.ownBlock=v1.ownBlock∨∀k,v'.ownBlock=some k→w.heap.size≤k) {l:List ByteArray} (ho:OwnR Rep.str (fun _=>False) W B 9 v' l) :
  TabX X B p { T with sorts:=l } (W.setCell ⟨p,0,none⟩ v')∧PStep p w (W.setCell ⟨p,0,none⟩ v'):=by
 obtain ⟨u1,u2,u3,hb',h1,h2,h3⟩:=h.blk
 rw [hb] at hb'
 cases hb'
 have hp1:v1.ownBlock≠some p:=fun e=>ty_ne (by decide) (h1.ty p e) ⟨_,_,hb⟩
 have hp2:v2.ownBlock≠some p:=fun e=>ty_ne (by decide) (h2.ty p e) ⟨_,_,hb⟩
 have hp3:v3.ownBlock≠some p:=fun e=>ty_ne (by decide) (h3.ty p e) ⟨_,_,hb⟩
 obtain ⟨s1,s2,s3⟩:=setField (v':=v') hb (i:=0) rfl hg hp1 hloc
 have hpW:W.heap[p]? = w.heap[p]?:=hg.block p h.plt (Ne.symm hp1)
 have hp':v'.ownBlock≠some p:=fun e=>ty_ne (by decide) (ho.ty p e) ⟨_,_,hpW.trans hb⟩
 have hsz:(W.setCell ⟨p,0,none⟩ v').heap.size=W.heap.size:=by simp [World.setCell]
 refine⟨⟨h.bp,fun k hx=>Nat.lt_of_lt_of_le (h.xlt k hx) (Nat.le_trans hg.size (Nat.le_of_eq hsz.symm)),v',v2,v3,s2,ho.keep (fun _ _ h=>h.elim) (fun k hk=>s3 k fun e=>hp' (by rw [←e];exact hk)) (Nat.le_of_eq hsz.symm),h2.keepI (fun k hk=>?_) (fun k hk=>?_) (by rw [hsz];exact hg.size),h3.keep (fun _ _ h=>h.elim) (fun k hk=>?_) (by rw [hsz];exact hg.size)⟩,s1⟩
 ·rw [s3 k fun e=>by subst e;exact ty_ne (by decide) ⟨_,_,hb⟩ hk.2]
  exact hg.block k hk.lt fun e=>ty_ne (by decide) (h1.ty k e.symm) hk.2
 ·rw [s3 k fun e=>hp2 (by rw [←e];exact hk)]
  exact hg.block k (h2.lt k hk).2 fun e=>own_ty_ne h2 h1 (by decide) hk e.symm
 ·rw [s3 k fun e=>hp3 (by rw [←e];exact hk)]
  exact hg.block k (h3.lt k hk).2 fun e=>own_ty_ne h3 h1 (by decide) hk e.symm
theorem TabX.setFuns (h:TabX X B p T w) (hb:w.heap[p]? = some (.cells #[v1,v2,v3] 168 (0,0))) (hg:w.grownBy W v2.ownBlock) (hloc:v'.ownBlock=v2.ownBlock∨∀k,v'.ownBlock=some k→w.heap.size≤k) {l:List FunD} (ho:OwnR repF (IntX X W) W B 114 v' l) :
  TabX X B p { T with funs:=l } (W.setCell ⟨p,1,none⟩ v')∧PStep p w (W.setCell ⟨p,1,none⟩ v'):=by
 obtain ⟨u1,u2,u3,hb',h1,h2,h3⟩:=h.blk
 rw [hb] at hb'
 cases hb'
 have hp1:v1.ownBlock≠some p:=fun e=>ty_ne (by decide) (h1.ty p e) ⟨_,_,hb⟩
 have hp2:v2.ownBlock≠some p:=fun e=>ty_ne (by decide) (h2.ty p e) ⟨_,_,hb⟩
 have hp3:v3.ownBlock≠some p:=fun e=>ty_ne (by decide) (h3.ty p e) ⟨_,_,hb⟩
 obtain ⟨s1,s2,s3⟩:=setField (v':=v') hb (i:=1) rfl hg hp2 hloc
 have hpW:W.heap[p]? = w.heap[p]?:=hg.block p h.plt (Ne.symm hp2)
 have hp':v'.ownBlock≠some p:=fun e=>ty_ne (by decide) (ho.ty p e) ⟨_,_,hpW.trans hb⟩
 have hsz:(W.setCell ⟨p,1,none⟩ v').heap.size=W.heap.size:=by simp [World.setCell]
 refine⟨⟨h.bp,fun k hx=>Nat.lt_of_lt_of_le (h.xlt k hx) (Nat.le_trans hg.size (Nat.le_of_eq hsz.symm)),v1,v',v3,s2,h1.keep (fun _ _ h=>h.elim) (fun k hk=>?_) (by rw [hsz];exact hg.size),ho.keepI (fun k hk=>s3 k fun e=>?_) (fun k hk=>s3 k fun e=>hp' (by rw [←e];exact hk)) (Nat.le_of_eq hsz.symm),h3.keep (fun _ _ h=>h.elim) (fun k hk=>?_) (by rw [hsz];exact hg.size)⟩,s1⟩
 ·rw [s3 k fun e=>hp1 (by rw [←e];exact hk)]
  exact hg.block k (h1.lt k hk).2 fun e=>own_ty_ne h1 h2 (by decide) hk e.symm
 ·subst e;exact ty_ne (by decide) ⟨_,_,hpW.trans hb⟩ hk.2
 ·rw [s3 k fun e=>hp3 (by rw [←e];exact hk)]
  exact hg.block k (h3.lt k hk).2 fun e=>own_ty_ne h3 h2 (by decide) hk e.symm
end
variable {X : Nat → Prop}
theorem info_int:(Tryz.prog.info? 3).map (fun i=>(i.zero,i.size,i.bytes))=some (some (.int .i64 0),1,8):=by kernel_rfl
theorem info_str:(Tryz.prog.info? 9).map (fun i=>(i.zero,i.size,i.bytes))=some (some (.string ByteArray.empty),1,16):=by kernel_rfl
theorem info_fun:(Tryz.prog.info? 114).map (fun i=>(i.zero,i.size,i.bytes))=some (some (.agg #[.string ByteArray.empty,.slice none 0 0,.int .i64 0]),3,48):=by kernel_rfl
theorem cell_p {w:World} {p:Nat} {cs:Array Value} {t:TypeId} {f:Nat × Nat} (hb:w.heap[p]? = some (.cells cs t f)) (j:Nat):w.cell? ⟨p,j,none⟩=cs[j]?:=by simp [World.cell?,hb]
theorem frz_p {w:World} {p:Nat} {cs:Array Value} {t:TypeId} (hb:w.heap[p]? = some (.cells cs t (0,0))) (j:Nat):w.frozen? ⟨p,j,none⟩=false:=by simp [World.frozen?,hb]
theorem grown_alloc {w W:World} {o:Obj} {row:Option Nat} (h:(w.alloc o).grownBy W row):w.grownBy W row:=
 ⟨h.os,h.tape,h.output,Nat.le_trans (by simp) h.size,fun k hk hne=>(h.block k (by simp;omega) hne).trans (Below.heap_alloc w o k hk)⟩
theorem SlR.strs {S:Nat→Prop} {w:World} {a:Option Addr} {n:Nat} {zs:List ByteArray} (h:SlR Rep.str S w a n zs) (hn:0<n):∃b o,a=some ⟨b,o,none⟩∧∀j,j<zs.length→w.cell? ⟨b,o+j,none⟩=some (.string (zs.getD j ByteArray.empty)):=by
 obtain ⟨b,o,ha,_,_,hc⟩:=h.2 hn
 refine⟨b,o,ha,fun j hj=>?_⟩
 obtain ⟨cs,h1,h2⟩:=hc j _ (List.getElem?_eq_getElem hj)
 have h3:=h2 0 (.string zs[j]) (by rw [show cs = [.string zs[j]] from h1];rfl)
 rw [repS_k] at h3
 simpa [List.getD,hj] using h3
theorem containsS_any {S:Nat→Prop} (a:Option Addr) (n c:Nat) (zs:List ByteArray) (x:ByteArray) (w:World) (h:SlR Rep.str S w a n zs) (hn:n≤9223372036854775807) :
  Calls Tryz.prog 106 #[.slice a n c,.string x] w fun e w'=>e = .returned (.bool (Lib.containsS zs x))∧w=w':=by
 rcases Nat.eq_zero_or_pos n with h0 | h0
 ·subst h0
  have hz:zs = []:=List.eq_nil_of_length_eq_zero h.1
  subst hz
  exact(Tryz.slices_Contains_string_empty a c x w).mono fun e w' ⟨h1,h2⟩=>⟨h1,h2.symm⟩
 ·obtain ⟨b,o,rfl,hc⟩:=h.strs h0
  refine(Tryz.slices_Contains_string b o n c zs x w (Nat.le_of_eq h.1.symm) hn hc).mono fun e w' ⟨h1,h2⟩=>⟨?_,h2.symm⟩
  rw [←h.1,List.take_length] at h1
  exact h1
theorem tnew_any (w:World):Calls Tryz.prog 56 #[] w fun e w'=>∃p,e = .returned (.pointer (some ⟨p,0,none⟩))∧TabIs w.heap.size p ⟨[],[],[]⟩ w'∧Below w.heap.size w w':=by
 go_enter Tryz.func56,Tryz.ntmps56
 go_wp2
 go_ret
 exact⟨w.heap.size,rfl,⟨Nat.le_refl _,fun _ h=>h.elim,_,_,_,heap_alloc_new w _,OwnR.nil _ _ _ _ _,OwnR.nil _ _ _ _ _,OwnR.nil _ _ _ _ _⟩,(Below.refl _ _).alloc (Nat.le_refl _) _⟩
theorem TabX.look {B p:Nat} {T:TabD} {w:World} (h:TabX X B p T w):∃a1 c1 a2 c2 a3 c3,w.heap[p]? = some (.cells #[.slice a1 T.sorts.length c1,.slice a2 T.funs.length c2,.slice a3 T.marks.length c3] 168 (0,0)) ∧
  OwnR Rep.str (fun _=>False) w B 9 (.slice a1 T.sorts.length c1) T.sorts∧OwnR repF (IntX X w) w B 114 (.slice a2 T.funs.length c2) T.funs∧OwnR repM (fun _=>False) w B 330 (.slice a3 T.marks.length c3) T.marks:=by
 obtain ⟨v1,v2,v3,hb,h1,h2,h3⟩:=h.blk
 obtain ⟨a1,c1,rfl,_⟩:=h1.slice
 obtain ⟨a2,c2,rfl,_⟩:=h2.slice
 obtain ⟨a3,c3,rfl,_⟩:=h3.slice
 exact⟨a1,c1,a2,c2,a3,c3,hb,h1,h2,h3⟩
def isB (n:Nat) (s:Int):Bool:=decide (0≤s) && decide (s<2+n)
theorem is_any (B p:Nat) (T:TabD) (s:Int) (w:World) (h:TabX X B p T w) (hl:T.sorts.length<1099511627776):Calls Tryz.prog 110 #[.pointer (some ⟨p,0,none⟩),.int .i64 s] w fun e w'=>e = .returned (.bool (isB T.sorts.length s))∧w=w':=by
 obtain ⟨a1,c1,a2,c2,a3,c3,hb,_⟩:=h.look
 have k0:w.cell? ⟨p,0,none⟩=some (.slice a1 T.sorts.length c1):=cell_p hb 0
 have hd:=@hid (isB T.sorts.length s=(decide (0≤s) && decide (s<2+(T.sorts.length:Int)))) rfl
 clear hb h
 generalize T.sorts.length=n at *
 by_cases h1:0≤s
 ·have hv:=@hid (isB n s=decide (s<2+(n:Int))) (by rw [hd.out];simp [h1])
  go_enter Tryz.func110,Tryz.ntmps110
  go_wp2
  go_ret
  exact⟨ret_bool hv.out.symm,rfl⟩
 ·have hv:=@hid (false=isB n s) (by rw [hd.out];simp [h1])
  have h1':decide (0≤s)=false:=by simpa using h1
  go_enter Tryz.func110,Tryz.ntmps110
  go_wp2
  go_ret
  exact⟨ret_bool hv.out,rfl⟩
def badSort (T:TabD) (s:ByteArray):Bool:=!mayB s || Lib.containsS T.sorts s
def SortPost (X:Nat→Prop) (B p:Nat) (T:TabD) (s:ByteArray) (w:World) (e:Ending) (w':World):Prop:=
 (if badSort T s then e = .returned (.tuple #[.int .i64 0,.int .i64 1])∧TabX X B p T w' else e = .returned (.tuple #[.int .i64 ((T.sorts.length:Int)+2),.int .i64 0])∧TabX X B p { T with sorts:=T.sorts ++ [s] } w')∧PStep p w w'
theorem sort_any (B p:Nat) (T:TabD) (s:ByteArray) (w:World) (h:TabX X B p T w) (hE:Env w) (hl:T.sorts.length<1099511627776):Calls Tryz.prog 57 #[.pointer (some ⟨p,0,none⟩),.string s] w fun e w'=>SortPost X B p T s w e w':=by
 have h':=hid h
 have hm:=hid (may_any s w hE)
 have hd:=@hid (badSort T s=(!mayB s || Lib.containsS T.sorts s)) rfl
 clear h hE
 cases hmay:mayB s
 case false=>
  have hv:=@hid (badSort T s=true) (by rw [hd.out,hmay];rfl)
  rw [hmay] at hm
  clear hmay
  go_enter Tryz.func57,Tryz.ntmps57
  go_wp2_with fail
  refine hm.out.mono ?_;rintro e w1 ⟨rfl,hb⟩
  have hb':=hid hb
  clear hb
  go_wp2
  go_ret2
  unfold SortPost
  rw [if_pos hv.out]
  exact⟨⟨rfl,h'.out.all hb'.out⟩,.of_below h'.out.plt hb'.out⟩
 rw [hmay] at hm
 obtain ⟨i0,hi,hz0,hz1,hz2⟩:=info_parts info_str
 go_enter Tryz.func57,Tryz.ntmps57
 go_wp2_with fail
 refine hm.out.mono ?_;rintro e w1 ⟨rfl,hb⟩
 have hb':=hid hb
 have H1:=hid (h'.out.all hb)
 obtain ⟨a1,c1,a2,c2,a3,c3,hblk,o1,_⟩:=H1.out.look
 have k0:w1.cell? ⟨p,0,none⟩=some (.slice a1 T.sorts.length c1):=cell_p hblk 0
 have f0:w1.frozen? ⟨p,0,none⟩=false:=frz_p hblk 0
 have hrd:=o1.read (S':=fun _=>True) (fun _ _ _=>trivial) (fun _ _=>trivial)
 have hct:=hid (containsS_any a1 T.sorts.length c1 T.sorts s w1 hrd (by omega))
 have hblk':=hid hblk
 obtain ⟨css,oc,ol,oe⟩:=o1
 have oc':=hid oc
 have ol':=hid ol
 have oe':=hid oe
 have hp1:=hid (show Value.ownBlock (.slice a1 T.sorts.length c1)≠some p from fun e=>ty_ne (by decide) (oc.ty p e) ⟨_,_,hblk⟩)
 have hplt:=H1.out.plt
 have hBs:=Nat.le_trans H1.out.bp (Nat.le_of_lt hplt)
 clear hb hblk hrd oc ol oe
 cases hcs:Lib.containsS T.sorts s
 case true=>
  have hv:=@hid (badSort T s=true) (by rw [hd.out,hmay,hcs];rfl)
  rw [hcs] at hct
  clear hmay hcs
  go_wp2_with fail
  refine hct.out.mono ?_;rintro e w' ⟨rfl,rfl⟩
  go_wp2
  go_ret2
  unfold SortPost
  rw [if_pos hv.out]
  exact⟨⟨rfl,H1.out⟩,.of_below h'.out.plt hb'.out⟩
 case false=>
  have hv:=@hid (badSort T s=false) (by rw [hd.out,hmay,hcs];rfl)
  rw [hcs] at hct
  clear hmay hcs
  have hnl:T.sorts.length<1099511627776:=hl
  go_wp2_with fail
  refine hct.out.mono ?_;rintro e w' ⟨rfl,rfl⟩
  go_wp2_with (at_builtin;refine wpList_append_C rfl (.tmp 25) (.tmp 27) rfl Tryz.underlying60 hi hz0 hz1 hz2 rfl (by decide) rfl rfl (oc'.out.alloc _) (Src.one (b:=w1.heap.size) (news:=[.string s]) rfl ?c1) ?c2 ?c3 ?c4 ?c5 ?_)
  case c1=>intro j u hu;rw [World.cell?_alloc_new];simpa using hu
  case c2=>intro u hu;simp at hu;subst hu;rfl
  case c3=>unfold maxLen;omega
  case c4=>omega
  case c5=>simp;omega
  intro v' w2 ho2 hg2 hl2
  have hg2':=hid (grown_alloc hg2)
  have hl2':=hid (show v'.ownBlock=Value.ownBlock (.slice a1 T.sorts.length c1)∨∀k,v'.ownBlock=some k→w1.heap.size≤k from hl2.imp id (fun hh k hk=>Nat.le_of_succ_le (hh k hk)))
  have ho2':=hid (OwnR.push (R:=Rep.str) (S:=fun _=>False) (x:=s) ol'.out oe'.out (show Rep.str.rd (fun _=>False) w1 s [.string s] from rfl) ho2 (fun _ _ h=>h.elim) (grown_alloc hg2).size)
  obtain ⟨a',c',rfl,_⟩:=ho2.slice
  have k2:w2.cell? ⟨p,0,none⟩=some (.slice a1 T.sorts.length c1):=by
   rw [World.cell?_of_block (w:=w1) (a:=⟨p,0,none⟩) (hg2'.out.block p hplt (Ne.symm hp1.out))];exact k0
  have f2:w2.frozen? ⟨p,0,none⟩=false:=by
   rw [World.frozen?_of_block (w:=w1) (a:=⟨p,0,none⟩) (hg2'.out.block p hplt (Ne.symm hp1.out))];exact f0
  clear ho2 hg2 hl2
  go_wp2
  go_ret2
  unfold SortPost
  rw [if_neg (by rw [hv.out];decide)]
  obtain ⟨t1,s1⟩:=H1.out.setSorts hblk'.out hg2'.out hl2'.out ho2'.out
  refine⟨⟨?_,t1⟩,(PStep.of_below h'.out.plt hb'.out).trans s1⟩
  have:(2:Int)+((T.sorts.length:Int)+1) - 1=(T.sorts.length:Int)+2:=by omega
  simp
  omega
variable {X : Nat → Prop}
theorem heap2a (w:World) (a b:Obj):((w.alloc a).alloc b).heap[w.heap.size]? = some a:=(Below.heap_alloc _ _ _ (by simp)).trans (heap_alloc_new w a)
theorem heap2b (w:World) (a b:Obj):((w.alloc a).alloc b).heap[w.heap.size+1]? = some b:=by
 have:=heap_alloc_new (w.alloc a) b
 rwa [World.size_alloc] at this
def WfI (xs:List Int):Prop:=∀x∈xs,-9223372036854775808≤x∧x≤9223372036854775807
theorem clone_any (a : Option Addr) (n c : Nat) (xs : List Int) (w : World) (hx : RdI w a n xs) (hn : n < 17592186044416) :
    Calls Tryz.prog 119 #[.slice a n c] w fun e w' => ∃ a' c', e = .returned (.slice a' n c') ∧ w'.ownsRow w.heap.size 3 1 (.slice a' n c') n (xs.map (Value.int .i64)) ∧ Below w.heap.size w w' := by
  by_cases h0 : 0 < n
  · obtain ⟨b, o, rfl, _, hc⟩ := hx.cells h0
    refine (Tryz.slices_Clone_int b o n c xs w (by rw [hx.len]; exact Nat.le_refl _) (by omega) (fun j hj => hc j (by rw [← hx.len]; exact hj))).mono ?_
    rintro e w' ⟨v', he, ho, _, hb⟩
    rw [show xs.take n = xs by rw [← hx.len, List.take_length]] at ho
    obtain ⟨a', c', rfl, _⟩ := (OwnC.of ho).slice
    exact ⟨a', c', he, ho, hb⟩
  · obtain rfl : n = 0 := by omega
    have : xs = [] := List.eq_nil_of_length_eq_zero hx.len
    subst this
    cases a with
    | none =>
      refine (Tryz.slices_Clone_int_nil 0 c w).mono ?_
      rintro e w' ⟨he, rfl⟩
      exact ⟨none, 0, he, World.ownsRow_nil _ _ _ _, Below.refl _ _⟩
    | some a =>
      refine (Tryz.slices_Clone_int_zero a c w).mono ?_
      rintro e w' ⟨v', he, ho, _, hb⟩
      obtain ⟨a', c', rfl, _⟩ := (OwnC.of ho).slice
      exact ⟨a', c', he, ho, hb⟩
theorem own_intB {w:World} {base n:Nat} {a:Option Addr} {m c:Nat} {xs:List Int} (h:w.ownsRow base 3 1 (.slice a m c) n (xs.map (Value.int .i64))) (hwf:WfI xs) (hX:∀k,X k→k<base):m=n∧SlR Rep.int (IntX X w) w a n xs∧m≤c∧c≤maxLen:=by
 obtain ⟨h1,h2,_⟩:=RdI.own h hwf
 obtain ⟨a',c',hv,h4,h5⟩:=(OwnC.of h).slice
 cases hv
 refine⟨h1,SlR.ofI h2 fun x hn hx=>?_,h4,h5⟩
 subst hx
 exact⟨fun hxx=>by have:=hX _ hxx;have:=((OwnC.of h).lt _ rfl).1;omega,(OwnC.of h).ty _ rfl⟩
theorem intB_set {w : World} {p : Addr} {v : Value} {k : Nat} : IntX X (w.setCell p v) k ↔ IntX X w k := by
  refine and_congr_right fun _ => ?_
  unfold World.setCell
  rw [Array.getElem?_modify]
  by_cases h : p.block = k
  · subst h
    rw [if_pos rfl]
    cases hh : w.heap[p.block]? with
    | none => simp
    | some o =>
      cases o with
      | cells cs e f =>
        simp only [Option.map_some]
        split <;> simp_all
      | _ => simp only [Option.map_some]
  · rw [if_neg h]
theorem SlR.intSet {w:World} {p:Addr} {v:Value} {a:Option Addr} {n:Nat} {xs:List Int} (h:SlR Rep.int (IntX X w) w a n xs) (hp:¬IntX X w p.block):SlR Rep.int (IntX X (w.setCell p v)) (w.setCell p v) a n xs:=
 (h.keep (fun b _ hb=>Below.heap_setCell w p v b (fun e=>hp (by rw [←e];exact hb))) (by simp [World.setCell])).mono fun b _ hb=>intB_set.2 hb
abbrev funV (nm:ByteArray) (a:Option Addr) (n c:Nat) (r:Int):Value:=.agg #[.string nm,.slice a n c,.int .i64 r]
def OwnPost (X:Nat→Prop) (nm:ByteArray) (xs:List Int) (r:Int) (w:World) (e:Ending) (w':World):Prop:=
 ∃a c,e = .returned (funV nm a xs.length c r)∧SlR Rep.int (IntX X w') w' a xs.length xs∧xs.length≤c∧c≤maxLen∧Below w.heap.size w w'
theorem ownF_any (nm:ByteArray) (a:Option Addr) (n c:Nat) (r:Int) (xs:List Int) (w:World) (hx:RdI w a n xs) (hn:n<17592186044416) (hX:∀k,X k→k<w.heap.size) :
  Calls Tryz.prog 111 #[funV nm a n c r] w fun e w'=>OwnPost X nm xs r w e w':=by
 have hx':=hid hx
 have lx:=hid hx.len
 have wx:=hid (show WfI xs from hx.wf)
 clear hx
 go_enter Tryz.func111,Tryz.ntmps111
 go_wp2_with fail
 have hb0:Below w.heap.size w ((w.alloc (.cells #[.string nm,.slice a n c,.int .i64 r] 114)).alloc (.cells #[.string ByteArray.empty,.slice none 0 0,.int .i64 0] 114)):=((Below.refl _ _).alloc (Nat.le_refl _) _).alloc (by simp) _
 have hb0':=hid hb0
 refine(clone_any a n c xs _ (hx'.out.below hb0 (Nat.le_refl _)) hn).mono ?_
 rintro e w1 ⟨a',c',rfl,ho,hb1⟩
 obtain ⟨_,hs,hc1,hc2⟩:=own_intB (X:=X) ho wx.out (fun k hk=>by have:=hX k hk;simp;omega)
 have hs':=hid hs
 have hb1':=hid hb1
 have hc1':=hid hc1
 have hc2':=hid hc2
 have hz:=hb1.size
 simp only [World.size_alloc] at hz
 have H1:=(hb1.block w.heap.size (by simp;omega)).trans (heap2a w _ _)
 have H2:=(hb1.block (w.heap.size+1) (by simp)).trans (heap2b w _ _)
 have k10:w1.cell? ⟨w.heap.size,0,none⟩=some (.string nm):=cell_p H1 0
 have k11:w1.cell? ⟨w.heap.size,1,none⟩=some (.slice a n c):=cell_p H1 1
 have k12:w1.cell? ⟨w.heap.size,2,none⟩=some (.int .i64 r):=cell_p H1 2
 have k20:w1.cell? ⟨w.heap.size+1,0,none⟩=some (.string ByteArray.empty):=cell_p H2 0
 have k21:w1.cell? ⟨w.heap.size+1,1,none⟩=some (.slice none 0 0):=cell_p H2 1
 have k22:w1.cell? ⟨w.heap.size+1,2,none⟩=some (.int .i64 0):=cell_p H2 2
 have f11:=frz_p H1 1
 have f20:=frz_p H2 0
 have f21:=frz_p H2 1
 have f22:=frz_p H2 2
 have hN1:=hid (show ¬IntX X w1 w.heap.size from fun h=>ty_ne (by decide) h.2 ⟨_,_,H1⟩)
 have hN2:=hid (show ¬IntX X w1 (w.heap.size+1) from fun h=>ty_ne (by decide) h.2 ⟨_,_,H2⟩)
 clear ho hb1 hs hc1 hc2 hb0 H1 H2
 go_wp2
 refine bodyPost_ret (v:=funV nm a' n c' r) (by simp [results,Tryz.results111,go_sem, *]) rfl ?_
 refine⟨a',c',by rw [lx.out],?_,by rw [lx.out];exact hc1'.out,hc2'.out,?_⟩
 ·rw [lx.out]
  exact(((hs'.out.intSet hN1.out).intSet (fun h=>hN2.out (intB_set.1 h))).intSet (fun h=>hN2.out (intB_set.1 (intB_set.1 h)))).intSet (fun h=>hN2.out (intB_set.1 (intB_set.1 (intB_set.1 h))))
 ·have b1:Below w.heap.size w w1:=hb0'.out.trans (hb1'.out.mono (by simp;omega))
  exact(((b1.setCell (Nat.le_refl _) _).setCell (by simp) _).setCell (by simp) _).setCell (by simp) _
def eqS (a b:ByteArray):Bool:=a.toList == b.toList
theorem isName_any (nm s:ByteArray) (a:Option Addr) (n c x:Nat) (r:Int) (w:World) (hx:w.cell? ⟨x,0,none⟩=some (.string s)) :
  Calls Tryz.prog 190 #[funV nm a n c r,.pointer (some ⟨x,0,none⟩)] w fun e w'=>e = .returned (.bool (eqS nm s))∧Below w.heap.size w w':=by
 have hd:=@hid (eqS nm s=(nm.toList == s.toList)) rfl
 have hlt:=World.block_lt_of_cell? w _ hx
 go_enter Tryz.func190,Tryz.ntmps190
 go_wp2
 go_ret
 exact⟨ret_bool hd.out.symm,(Below.refl _ _).alloc (Nat.le_refl _) _⟩
def idxP {α:Type} (p:α→Bool):List α→Nat→Int
 | [],_=>-1
 | x :: xs,i=>if p x then i else idxP p xs (i+1)
theorem idxP_skip {α : Type} {p : α → Bool} : ∀ {xs : List α} {k i : Nat}, (∀ j x, j < k → xs[j]? = some x → p x = false) → k ≤ xs.length → idxP p xs i = idxP p (xs.drop k) (i + k)
  | xs, 0, i, _, _ => by simp
  | [], k + 1, i, _, hk => by simp at hk
  | x :: xs, k + 1, i, h, hk => by
    have h0 := h 0 x (by omega) rfl
    rw [List.drop_succ_cons, ← Nat.add_assoc, Nat.add_right_comm, ← idxP_skip (xs := xs) (k := k) (i := i + 1) (fun j y hj hy => h (j + 1) y (by omega) (by simpa using hy)) (by simpa using hk)]
    show (if p x = true then (i : Int) else idxP p xs (i + 1)) = _
    rw [h0]; rfl
theorem idxP_hit {α:Type} {p:α→Bool} {xs:List α} {k:Nat} {x:α} (h:∀j x,j<k→xs[j]? = some x→p x=false) (hk:xs[k]? = some x) (hx:p x=true):idxP p xs 0=k:=by
 have hl:=(List.getElem?_eq_some_iff.1 hk).1
 rw [idxP_skip h (by omega),Nat.zero_add,List.drop_eq_getElem_cons hl]
 have:xs[k]=x:=(List.getElem?_eq_some_iff.1 hk).2
 unfold idxP
 rw [this,if_pos hx]
theorem idxP_miss {α:Type} {p:α→Bool} {xs:List α} (h:∀j x,j<xs.length→xs[j]? = some x→p x=false):idxP p xs 0 = -1:=by
 rw [idxP_skip h (Nat.le_refl _),List.drop_length];rfl
theorem idxP_find {α : Type} {p : α → Bool} : ∀ (xs : List α) (i : Nat), match xs.find? p with
    | none => idxP p xs i = -1
    | some x => ∃ k : Nat, idxP p xs i = ((i + k : Nat) : Int) ∧ xs[k]? = some x
  | [], i => rfl
  | x :: xs, i => by
    rw [List.find?_cons]
    cases hx : p x with
    | true => exact ⟨0, by unfold idxP; rw [if_pos hx]; rfl, rfl⟩
    | false =>
      have := idxP_find (p := p) xs (i + 1)
      have e : idxP p (x :: xs) i = idxP p xs (i + 1) := by show (if p x = true then _ else _) = _; rw [hx]; rfl
      cases hf : xs.find? p with
      | none => rw [hf] at this; dsimp only at this ⊢; rw [e]; exact this
      | some y =>
        rw [hf] at this
        obtain ⟨k, h1, h2⟩ := this
        exact ⟨k + 1, by rw [e, h1]; congr 1; omega, by simpa using h2⟩
theorem SlR.funAt {S:Nat→Prop} {w:World} {a:Option Addr} {n:Nat} {fs:List FunD} (h:SlR repF S w a n fs) {k:Nat} {f:FunD} (hf:fs[k]? = some f) :
  ∃b o a' c',a=some ⟨b,o,none⟩∧w.cell? ⟨b,o+k * 3,none⟩=some (.string f.name)∧w.cell? ⟨b,o+k * 3+1,none⟩=some (.slice a' f.args.length c')∧w.cell? ⟨b,o+k * 3+2,none⟩=some (.int .i64 f.res)∧SlR Rep.int S w a' f.args.length f.args∧okI f.res∧f.args.length≤c'∧c'≤maxLen:=by
 obtain ⟨b,o,cs,ha,_,hr,hc⟩:=h.at hf
 obtain ⟨a',n',c',rfl,h1,h2,h3,h4⟩:=repF_rd.1 hr
 obtain rfl:n'=f.args.length:=h3.1.symm
 rw [repF_k] at hc
 exact⟨b,o,a',c',ha,hc 0 _ rfl,hc 1 _ rfl,hc 2 _ rfl,h3,h4,h1,h2⟩
theorem indexFunc_any {S:Nat→Prop} (a:Option Addr) (n c x:Nat) (fs:List FunD) (s:ByteArray) (w:World) (h:SlR repF S w a n fs) (hn:n<1099511627776) (hx:w.cell? ⟨x,0,none⟩=some (.string s)) :
  Calls Tryz.prog 189 #[.slice a n c,.func (.func 190) #[] #[.pointer (some ⟨x,0,none⟩)]] w fun e w'=>
   e = .returned (.int .i64 (idxP (fun f:FunD=>eqS f.name s) fs 0))∧Below w.heap.size w w':=by
 have h':=hid h
 have lx:=hid h.1
 have hx':=hid hx
 have hlt:=World.block_lt_of_cell? w _ hx
 clear h hx
 go_enter Tryz.func189,Tryz.ntmps189
 go_wp2
 go_loopw [4,5,8] (fun _ _ i wr=>∃k:Nat,k≤n∧i = .int .i64 k∧Hid (∀j f,j<k→fs[j]? = some f→eqS f.name s=false)∧Hid (Below w.heap.size w wr)) (fun _ _ i _=>n - (intOf i).toNat)
 case atStart=>exact⟨0,Nat.zero_le _,rfl,fun j f hj=>absurd hj (Nat.not_lt_zero _),Below.refl _ _⟩
 case round=>
  obtain ⟨k,hk,rfl,hne,hB⟩:=hrel
  by_cases hlt2:k<n
  ·have hkx:k<fs.length:=by rw [lx.out];exact hlt2
   have hf:=List.getElem?_eq_getElem hkx
   obtain ⟨b,o,a',c',rfl,k0,k1,k2,_⟩:=(h'.out.below hB.out (Nat.le_refl _)).funAt hf
   have hxr:wr.cell? ⟨x,0,none⟩=some (.string s):=by rw [hB.out.cell (p:=⟨x,0,none⟩) hlt];exact hx'.out
   have hcl:=hid (isName_any fs[k].name s a' fs[k].args.length c' x fs[k].res wr hxr)
   have hf':=hid hf
   clear hf hxr
   cases he:eqS fs[k].name s
   case true=>
    have hv:=hid (idxP_hit (p:=fun f:FunD=>eqS f.name s) (fun j f hj hf=>hne.out j f hj hf) hf'.out he)
    rw [he] at hcl
    generalize fs[k]=f at *
    clear he
    go_wp2_with fail
    refine hcl.out.mono ?_;rintro e w1 ⟨rfl,hb⟩
    have hb':=hid (hB.out.trans (hb.mono hB.out.size))
    clear hb
    go_wp2
    go_ret
    exact⟨ret_int hv.out.symm,hb'.out⟩
   case false=>
    have hs:=@hid (∀j f,j<k+1→fs[j]? = some f→eqS f.name s=false) (fun j f hj hf=>by
     by_cases hjk:j<k
     ·exact hne.out j f hjk hf
     ·obtain rfl:j=k:=by omega
      rw [hf'.out] at hf
      cases hf
      exact he)
    rw [he] at hcl
    generalize fs[k]=f at *
    clear he
    go_wp2_with fail
    refine hcl.out.mono ?_;rintro e w1 ⟨rfl,hb⟩
    have hb':=hid (hB.out.trans (hb.mono hB.out.size))
    clear hb
    go_wp2
    go_roundw
    case rel=>exact⟨k+1,by omega,by go_num,hs.out,hb'.out⟩
    case measure=>simp [intOf];omega
  ·have hv:=hid (idxP_miss (p:=fun f:FunD=>eqS f.name s) (xs:=fs) (fun j f hj hf=>hne.out j f (by have:=lx.out;omega) hf))
   go_wp2
   go_ret
   exact⟨ret_int hv.out.symm,hB.out⟩
variable {X : Nat → Prop}
def findF (T:TabD) (s:ByteArray):Option FunD:=T.funs.find? fun f=>eqS f.name s
def noFun:FunD:=⟨ByteArray.empty,[],0⟩
def lookF (T:TabD) (s:ByteArray):FunD:=(findF T s).getD noFun
structure Small (T:TabD):Prop where
 s:T.sorts.length<1099511627776
 f:T.funs.length<1099511627776
 m:T.marks.length<1099511627776
 a:∀f∈T.funs,f.args.length<1099511627776
def TellF (X:Nat→Prop) (f:FunD) (ok:Bool) (w:World) (e:Ending) (w':World):Prop:=
 ∃a c,e = .returned (.tuple #[funV f.name a f.args.length c f.res,.bool ok])∧SlR Rep.int (IntX X w') w' a f.args.length f.args∧f.args.length≤c∧c≤maxLen∧Below w.heap.size w w'
theorem find_any (B p : Nat) (T : TabD) (s : ByteArray) (w : World) (h : TabX X B p T w) (hs : Small T) :
    Calls Tryz.prog 156 #[.pointer (some ⟨p, 0, none⟩), .string s] w fun e w' => TellF X (lookF T s) (findF T s).isSome w e w' := by
  have h' := hid h
  have hs' := hid hs
  have hplt := h.plt
  have hfl := hs.f
  have hd := @hid (findF T s = T.funs.find? fun f => eqS f.name s) rfl
  have hB0 : Below w.heap.size w ((w.alloc (.cells #[.string s] 9)).alloc (.cells #[.string ByteArray.empty, .slice none 0 0, .int .i64 0] 114)) := ((Below.refl _ _).alloc (Nat.le_refl _) _).alloc (by simp) _
  have hB0' := hid hB0
  have h2 := h.all hB0
  have hb1 := (Below.heap_alloc _ (.cells #[.string ByteArray.empty, .slice none 0 0, .int .i64 0] 114) _ (by simp)).trans (heap_alloc_new w (.cells #[.string s] 9))
  have hx : ((w.alloc (.cells #[.string s] 9)).alloc (.cells #[.string ByteArray.empty, .slice none 0 0, .int .i64 0] 114)).cell? ⟨w.heap.size, 0, none⟩ = some (.string s) := cell_p hb1 0
  obtain ⟨a1, c1, a2, c2, a3, c3, hblk, _, o2, _⟩ := h2.look
  have k1 := cell_p hblk 1
  simp only [List.getElem?_toArray, List.getElem?_cons_succ, List.getElem?_cons_zero] at k1
  have hrd := o2.read (S' := fun _ => True) (fun _ _ _ => trivial) (fun _ _ => trivial)
  have hrd' := hid hrd
  have hi := hid (indexFunc_any a2 T.funs.length c2 w.heap.size T.funs s _ hrd hfl hx)
  have hkw : w.cell? ⟨p, 1, none⟩ = some (.slice a2 T.funs.length c2) := by rw [← hB0.cell (p := ⟨p, 1, none⟩) hplt]; exact k1
  clear h h2 hB0 hb1 hx hblk o2 hrd k1
  have hidx := idxP_find (p := fun f : FunD => eqS f.name s) T.funs 0
  rw [← hd.out] at hidx
  cases hf : findF T s with
  | none =>
    rw [hf] at hidx
    dsimp only at hidx
    rw [hidx] at hi
    have hl := @hid (lookF T s = noFun) (by unfold lookF; rw [hf]; rfl)
    clear hidx hf hd
    go_enter Tryz.func156, Tryz.ntmps156
    go_wp2_with fail
    refine hi.out.mono ?_; rintro e w1 ⟨rfl, hb⟩
    have hz := hb.size
    simp only [World.size_alloc] at hz
    have H2 := (hb.block (w.heap.size + 1) (by simp)).trans (heap2b w _ _)
    have k20 : w1.cell? ⟨w.heap.size + 1, 0, none⟩ = some (.string ByteArray.empty) := cell_p H2 0
    have k21 : w1.cell? ⟨w.heap.size + 1, 1, none⟩ = some (.slice none 0 0) := cell_p H2 1
    have k22 : w1.cell? ⟨w.heap.size + 1, 2, none⟩ = some (.int .i64 0) := cell_p H2 2
    have f20 := frz_p H2 0
    have f21 := frz_p H2 1
    have f22 := frz_p H2 2
    have hb' := hid (hB0'.out.trans (hb.mono (by simp; omega)))
    clear hb H2 hi
    go_wp2
    refine bodyPost_ret (v := .tuple #[funV ⟨#[]⟩ none 0 0 0, .bool false]) (by simp [results, Tryz.results156, go_sem, *]) rfl ?_
    refine ⟨none, 0, by rw [hl.out]; rfl, by rw [hl.out]; exact SlR.nil _ _ _ _, by rw [hl.out]; exact Nat.le_refl _, Nat.zero_le _, ?_⟩
    exact ((hb'.out.setCell (by simp) _).setCell (by simp) _).setCell (by simp) _
  | some f =>
    rw [hf] at hidx
    dsimp only at hidx
    obtain ⟨k, hk1, hk2⟩ := hidx
    rw [Nat.zero_add] at hk1
    rw [hk1] at hi
    have hkl := (List.getElem?_eq_some_iff.1 hk2).1
    have hl := @hid (lookF T s = f) (by unfold lookF; rw [hf]; rfl)
    have hfa := hs'.out.a f (List.mem_of_getElem? hk2)
    have hk2' := hid hk2
    clear hk1 hf hd hk2
    go_enter Tryz.func156, Tryz.ntmps156
    go_wp2_with fail
    refine hi.out.mono ?_; rintro e w1 ⟨rfl, hb⟩
    have hz := hb.size
    simp only [World.size_alloc] at hz
    have H2 := (hb.block (w.heap.size + 1) (by simp)).trans (heap2b w _ _)
    have H2' := hid H2
    have hb0 := hB0'.out.trans (hb.mono (by simp; omega))
    have hb' := hid hb0
    have kp : w1.cell? ⟨p, 1, none⟩ = some (.slice a2 T.funs.length c2) := by rw [hb0.cell (p := ⟨p, 1, none⟩) hplt]; exact hkw
    obtain ⟨b, o, a', c', rfl, q0, q1, q2, q3, _⟩ := (hrd'.out.below hb (Nat.le_refl _)).funAt hk2'.out
    have hown := hid (ownF_any f.name a' f.args.length c' f.res f.args w1 q3.toI (by omega) (fun k hk => Nat.lt_of_lt_of_le (h'.out.xlt k hk) hb0.size))
    clear hb hi hb0 q3 H2 hkw
    go_wp2_with fail
    refine hown.out.mono ?_
    rintro e w2 ⟨a4, c4, rfl, hs4, hc4, hc5, hb4⟩
    have H3 := (hb4.block (w.heap.size + 1) (by omega)).trans H2'.out
    have k20 : w2.cell? ⟨w.heap.size + 1, 0, none⟩ = some (.string ByteArray.empty) := cell_p H3 0
    have k21 : w2.cell? ⟨w.heap.size + 1, 1, none⟩ = some (.slice none 0 0) := cell_p H3 1
    have k22 : w2.cell? ⟨w.heap.size + 1, 2, none⟩ = some (.int .i64 0) := cell_p H3 2
    have f20 := frz_p H3 0
    have f21 := frz_p H3 1
    have f22 := frz_p H3 2
    have hN := hid (show ¬ IntX X w2 (w.heap.size + 1) from fun h => ty_ne (by decide) h.2 ⟨_, _, H3⟩)
    have hs4' := hid hs4
    have hc4' := hid hc4
    have hc5' := hid hc5
    have hb4' := hid (hb'.out.trans (hb4.mono hb'.out.size))
    clear hb4 H3 hs4 hc4 hc5 kp q0 q1 q2 hown
    go_wp2
    refine bodyPost_ret (v := .tuple #[funV f.name a4 f.args.length c4 f.res, .bool true]) (by simp [results, Tryz.results156, go_sem, *]) rfl ?_
    refine ⟨a4, c4, by rw [hl.out]; rfl, by rw [hl.out]; exact ((hs4'.out.intSet hN.out).intSet (fun h => hN.out (intB_set.1 h))).intSet (fun h => hN.out (intB_set.1 (intB_set.1 h))), by rw [hl.out]; exact hc4'.out, hc5'.out, ?_⟩
    exact ((hb4'.out.setCell (by simp) _).setCell (by simp) _).setCell (by simp) _
def mayFunB (T:TabD) (s:ByteArray):Bool:=mayB s && !(findF T s).isSome
theorem mayFun_any (B p:Nat) (T:TabD) (s:ByteArray) (w:World) (h:TabX X B p T w) (hs:Small T) (hE:Env w) :
  Calls Tryz.prog 109 #[.pointer (some ⟨p,0,none⟩),.string s] w fun e w'=>e = .returned (.bool (mayFunB T s))∧Below w.heap.size w w':=by
 have hc:=hid (find_any B p T s w h hs)
 have hd:=@hid (mayFunB T s=(mayB s && !(findF T s).isSome)) rfl
 have hE':=hid hE
 generalize lookF T s=f at *
 generalize (findF T s).isSome=ok at *
 clear h hs hE
 go_enter Tryz.func109,Tryz.ntmps109
 go_wp2_with fail
 refine hc.out.mono ?_
 rintro e w1 ⟨a,c,rfl,_,_,_,hb⟩
 have hb':=hid hb
 have hB1:=hb.trans (((Below.refl w1.heap.size w1).alloc (Nat.le_refl _) (.cells #[.string f.name,.slice a f.args.length c,.int .i64 f.res] 114)).mono hb.size)
 have hE1:=hid (hE'.out.all hB1)
 have hB1':=hid hB1
 clear hb hB1
 have hm:=hid (may_any s _ hE1.out)
 cases hmy:mayB s
 case false=>
  have hv:=@hid (false=mayFunB T s) (by rw [hd.out,hmy];rfl)
  rw [hmy] at hm
  clear hmy
  go_wp2_with fail
  refine hm.out.mono ?_;rintro e w2 ⟨rfl,hb2⟩
  have hb2':=hid (hB1'.out.trans (hb2.mono hB1'.out.size))
  clear hb2
  go_wp2
  go_ret
  exact⟨ret_bool hv.out,hb2'.out⟩
 case true=>
  have hv:=@hid ((!ok)=mayFunB T s) (by rw [hd.out,hmy];rfl)
  rw [hmy] at hm
  clear hmy
  go_wp2_with fail
  refine hm.out.mono ?_;rintro e w2 ⟨rfl,hb2⟩
  have hb2':=hid (hB1'.out.trans (hb2.mono hB1'.out.size))
  clear hb2
  go_wp2
  go_ret
  exact⟨ret_bool hv.out,hb2'.out⟩
def findSort (T:TabD) (s:ByteArray):Int × Bool:=
 if s.toList == [66,111,111,108] then(0,true) else if s.toList == [82,101,97,108] then(1,true) else if Lib.idxOfS T.sorts s<0 then(0,false) else(2+Lib.idxOfS T.sorts s,true)
variable {X : Nat → Prop}
theorem loc_alloc {v v':Value} {w:World} {o:Obj} (h:v'.ownBlock=v.ownBlock∨∀k,v'.ownBlock=some k→(w.alloc o).heap.size≤k):v'.ownBlock=v.ownBlock∨∀k,v'.ownBlock=some k→w.heap.size≤k:=
 h.imp id fun hh k hk=>by have:=hh k hk;rw [World.size_alloc] at this;omega
theorem cell_grown {w W:World} {row:Option Nat} {p j:Nat} (h:w.grownBy W row) (hp:p<w.heap.size) (hr:row≠some p):W.cell? ⟨p,j,none⟩=w.cell? ⟨p,j,none⟩:=World.cell?_of_block (a:=⟨p,j,none⟩) (h.block p hp (Ne.symm hr))
theorem frozen_grown {w W:World} {row:Option Nat} {p j:Nat} (h:w.grownBy W row) (hp:p<w.heap.size) (hr:row≠some p):W.frozen? ⟨p,j,none⟩=w.frozen? ⟨p,j,none⟩:=World.frozen?_of_block (a:=⟨p,j,none⟩) (h.block p hp (Ne.symm hr))
theorem OwnC.drew {w:World} {base:Nat} {e:TypeId} {size n:Nat} {v:Value} {xs:List Value} (h:OwnC w base e size v n xs):OwnC w.drew base e size v n xs:=h
end Go.Proofs.YtgoojkiccdjplaaGreatDoor
