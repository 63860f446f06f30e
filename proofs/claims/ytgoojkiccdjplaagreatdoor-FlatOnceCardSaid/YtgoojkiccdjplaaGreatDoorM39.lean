/-
  Parts of this claim's texts, one behind the other: VB. No condition.
-/
import Derived.Test.YtgoojkiccdjplaaGreatDoorM38
set_option linter.unusedVariables false
set_option linter.unusedSimpArgs false
set_option maxRecDepth 100000
set_option maxHeartbeats 16000000
namespace Go.Proofs.YtgoojkiccdjplaaGreatDoor
open Go.RowKit Go.Sort Go.Lib
theorem zero_node (S:Nat→Prop) (w:World):NodeS S w zeroN none 0 none 0 none 0:=
 ⟨SlR.nil _ _ _ _,⟨Nat.le_refl _,Nat.zero_le _⟩,SlR.nil _ _ _ _,⟨Nat.le_refl _,Nat.zero_le _⟩,SlR.nil _ _ _ _,⟨Nat.le_refl _,Nat.zero_le _⟩,okI_0,okI_0⟩
theorem nodeX_any (B p:Nat) (T:TermD) (i:Int) (w:World) (h:TermX B p T w) (hs:SmN T):Calls Tryz.prog 20 #[.pointer (some ⟨p,0,none⟩),.int .i64 i] w fun e w'=>NodePost (nodeX T i) (hasT T i) w e w':=by
 cases hi:hasT T i
 case true=>
  obtain ⟨g0,g1⟩:=hasT_iff.1 hi
  obtain ⟨k,rfl⟩:=Int.eq_ofNat_of_zero_le g0
  have:=node_any B p T k w h (by omega) hs
  rwa [show nodeX T (k:Int)=nodeAt T k from by unfold nodeX;rw [if_pos hi]]
 case false=>
  have hB0:Below w.heap.size w (w.alloc (.cells #[.int .i64 0,.string ByteArray.empty,.bool false,.slice none 0 0,.slice none 0 0,.slice none 0 0,.int .i64 0] 38)):=(Below.refl _ _).alloc (Nat.le_refl _) _
  have hB0':=hid hB0
  have hh:=hid (has_any B p T i _ (h.all hB0))
  rw [hi] at hh
  have hX:=heap_alloc_new w (.cells #[.int .i64 0,.string ByteArray.empty,.bool false,.slice none 0 0,.slice none 0 0,.slice none 0 0,.int .i64 0] 38)
  have r0:=cell_p hX 0
  have r1:=cell_p hX 1
  have r2:=cell_p hX 2
  have r3:=cell_p hX 3
  have r4:=cell_p hX 4
  have r5:=cell_p hX 5
  have r6:=cell_p hX 6
  have f0:=frz_p hX 0
  have f1:=frz_p hX 1
  have f2:=frz_p hX 2
  have f3:=frz_p hX 3
  have f4:=frz_p hX 4
  have f5:=frz_p hX 5
  have f6:=frz_p hX 6
  simp only [List.getElem?_toArray,List.getElem?_cons_succ,List.getElem?_cons_zero] at r0 r1 r2 r3 r4 r5 r6
  have hv:=hid (show nodeX T i=zeroN from by unfold nodeX;rw [hi];rfl)
  clear h hs hi hB0
  go_enter Tryz.func20,Tryz.ntmps20
  go_wp2_with fail
  refine hh.out.mono ?_;rintro e1 w' ⟨rfl,rfl⟩
  go_wp2
  refine bodyPost_ret (v:=.tuple #[nodeV zeroN none 0 none 0 none 0,.bool false]) (by simp [results,Tryz.results20,go_sem, *];exact⟨rfl,rfl,rfl,rfl,rfl,rfl,rfl⟩) rfl ?_
  rw [hv.out]
  exact⟨none,0,none,0,none,0,rfl,zero_node _ _,(Below.refl _ _).alloc (Nat.le_refl _) _⟩
def Tells (fs:Nat) (P:NodeD→Bool):Prop:=∀(n:NodeD) (a:Option Addr) (c:Nat) (b:Option Addr) (d:Nat) (g:Option Addr) (e:Nat) (w:World),Calls Tryz.prog fs #[nodeV n a c b d g e] w fun r w'=>r = .returned (.bool (P n))∧Below w.heap.size w w'
theorem applied_any:Tells 79 appliedN:=by
 intro n a c b d g e w
 obtain ⟨op,nm,⟨ng,nu,de⟩,args,so⟩:=n
 have hb0:Below w.heap.size w (w.alloc (.cells #[.int .i64 op,.string nm,.bool ng,.slice a nu.length c,.slice b de.length d,.slice g args.length e,.int .i64 so] 38)):=(Below.refl _ _).alloc (Nat.le_refl _) _
 have hX0:=heap_alloc_new w (.cells #[.int .i64 op,.string nm,.bool ng,.slice a nu.length c,.slice b de.length d,.slice g args.length e,.int .i64 so] 38)
 have hB:=hid hb0
 have hd:=@hid (appliedN ⟨op,nm,⟨ng,nu,de⟩,args,so⟩=(decide (op=12) && decide (0<args.length))) rfl
 generalize hw1:w.alloc (.cells #[.int .i64 op,.string nm,.bool ng,.slice a nu.length c,.slice b de.length d,.slice g args.length e,.int .i64 so] 38)=w1 at *
 have r0:=cell_p hX0 0
 have r5:=cell_p hX0 5
 simp only [List.getElem?_toArray,List.getElem?_cons_succ,List.getElem?_cons_zero] at r0 r5
 clear hb0 hX0
 by_cases hop:op=12
 ·subst hop
  have hv:=hid (show decide (0<args.length)=appliedN ⟨12,nm,⟨ng,nu,de⟩,args,so⟩ from by rw [hd.out];rfl)
  clear hd
  go_enter Tryz.func79,Tryz.ntmps79
  go_wp2
  go_ret
  exact⟨ret_bool hv.out,hB.out⟩
 ·have hopd:decide (op=12)=false:=decide_eq_false hop
  have hv:=hid (show false=appliedN ⟨op,nm,⟨ng,nu,de⟩,args,so⟩ from by rw [hd.out,hopd];rfl)
  clear hd
  go_enter Tryz.func79,Tryz.ntmps79
  go_wp2
  go_ret
  exact⟨ret_bool hv.out,hB.out⟩
theorem choice1_any:Tells 125 choiceN:=by
 intro n a c b d g e w
 obtain ⟨op,nm,⟨ng,nu,de⟩,args,so⟩:=n
 have hb0:Below w.heap.size w (w.alloc (.cells #[.int .i64 op,.string nm,.bool ng,.slice a nu.length c,.slice b de.length d,.slice g args.length e,.int .i64 so] 38)):=(Below.refl _ _).alloc (Nat.le_refl _) _
 have hX0:=heap_alloc_new w (.cells #[.int .i64 op,.string nm,.bool ng,.slice a nu.length c,.slice b de.length d,.slice g args.length e,.int .i64 so] 38)
 have hB:=hid hb0
 have hd:=@hid (choiceN ⟨op,nm,⟨ng,nu,de⟩,args,so⟩=(decide (op=10) && !decide (so=0))) rfl
 generalize hw1:w.alloc (.cells #[.int .i64 op,.string nm,.bool ng,.slice a nu.length c,.slice b de.length d,.slice g args.length e,.int .i64 so] 38)=w1 at *
 have r0:=cell_p hX0 0
 have r6:=cell_p hX0 6
 simp only [List.getElem?_toArray,List.getElem?_cons_succ,List.getElem?_cons_zero] at r0 r6
 clear hb0 hX0
 by_cases hop:op=10
 ·subst hop
  have hv:=hid (show(so != 0)=choiceN ⟨10,nm,⟨ng,nu,de⟩,args,so⟩ from by
   rw [hd.out]
   by_cases hs:so=0
   ·subst hs;rfl
   ·rw [decide_eq_false hs,bne_iff_ne.2 hs];rfl)
  clear hd
  go_enter Tryz.func125,Tryz.ntmps125
  go_wp2
  go_ret
  exact⟨ret_bool hv.out,hB.out⟩
 ·have hopd:decide (op=10)=false:=decide_eq_false hop
  have hv:=hid (show false=choiceN ⟨op,nm,⟨ng,nu,de⟩,args,so⟩ from by rw [hd.out,hopd];rfl)
  clear hd
  go_enter Tryz.func125,Tryz.ntmps125
  go_wp2
  go_ret
  exact⟨ret_bool hv.out,hB.out⟩
theorem any1_any {fs:Nat} {P:NodeD→Bool} (hf:Tells fs P) (hen:∀args w,(callFunc fs args).run Tryz.prog w = .ok (.enter fs args) w) (B p:Nat) (T:TermD) (i:Int) (x y:Nat) (w:World) (h:TermX B p T w) (hs:SmN T)
  (hx:w.heap[x]? = some (.cells #[.pointer (some ⟨p,0,none⟩)] 26 (0,0))) (hy:w.heap[y]? = some (.cells #[.func (.func fs) #[] #[]] 140 (0,0))) :
  Calls Tryz.prog 123 #[.int .i64 i,.pointer (some ⟨x,0,none⟩),.pointer (some ⟨y,0,none⟩)] w fun e w'=>e = .returned (.bool (P (nodeX T i)))∧Below w.heap.size w w':=by
 have hn:=hid (nodeX_any B p T i w h hs)
 have hf':=hid hf
 have k1:=cell_p hx 0
 simp only [List.getElem?_toArray,List.getElem?_cons_zero] at k1
 have hylt:=(Array.getElem?_eq_some_iff.1 hy).1
 have hy':=hid hy
 generalize nodeX T i=n at *
 clear h hs hx hy hf
 go_enter Tryz.func123,Tryz.ntmps123
 go_wp2_with fail
 refine hn.out.mono ?_;rintro e w1 ⟨a,c,b,d,g,e',rfl,hN,hb⟩
 obtain ⟨op,nm,⟨ng,nu,de⟩,args,so⟩:=n
 have hbb:Below w.heap.size w (w1.alloc (.cells #[.int .i64 op,.string nm,.bool ng,.slice a nu.length c,.slice b de.length d,.slice g args.length e',.int .i64 so] 38)):=hb.alloc hb.size _
 have hX1:=heap_alloc_new w1 (.cells #[.int .i64 op,.string nm,.bool ng,.slice a nu.length c,.slice b de.length d,.slice g args.length e',.int .i64 so] 38)
 have hY1:=(hbb.block y hylt).trans hy'.out
 have B1:=hid hbb
 clear hbb hb hN hn
 generalize hw2:w1.alloc (.cells #[.int .i64 op,.string nm,.bool ng,.slice a nu.length c,.slice b de.length d,.slice g args.length e',.int .i64 so] 38)=w2 at *
 have r0:=cell_p hX1 0
 have r1:=cell_p hX1 1
 have r2:=cell_p hX1 2
 have r3:=cell_p hX1 3
 have r4:=cell_p hX1 4
 have r5:=cell_p hX1 5
 have r6:=cell_p hX1 6
 have k2:=cell_p hY1 0
 simp only [List.getElem?_toArray,List.getElem?_cons_succ,List.getElem?_cons_zero] at r0 r1 r2 r3 r4 r5 r6 k2
 have hcall:=hid (hf'.out ⟨op,nm,⟨ng,nu,de⟩,args,so⟩ a c b d g e' w2)
 clear hX1 hY1
 go_wp2_with fail
 refine hcall.out.mono ?_;rintro e w3 ⟨rfl,hb3⟩
 have B3:=hid (B1.out.trans (hb3.mono B1.out.size))
 clear hb3 hcall
 go_wp2
 go_ret
 exact⟨rfl,B3.out⟩
theorem fany_any {fs:Nat} {P:NodeD→Bool} (hf:Tells fs P) (hen:∀args w,(callFunc fs args).run Tryz.prog w = .ok (.enter fs args) w) (B p:Nat) (T:TermD) (id:Int) (w:World) (h:TermX B p T w) (ht:TermOk T) (hid:okI id) :
  Calls Tryz.prog 78 #[.pointer (some ⟨p,0,none⟩),.int .i64 id,.func (.func fs) #[] #[]] w fun e w'=>e = .returned (.bool (anyT T P id))∧Below w.heap.size w w':=by
 have hB2:Below w.heap.size w ((w.alloc (.cells #[.pointer (some ⟨p,0,none⟩)] 26)).alloc (.cells #[.func (.func fs) #[] #[]] 140)):=below2 w _ _
 have hx2:=heap2a w (.cells #[.pointer (some ⟨p,0,none⟩)] 26) (.cells #[.func (.func fs) #[] #[]] 140)
 have hy2:=heap2b w (.cells #[.pointer (some ⟨p,0,none⟩)] 26) (.cells #[.func (.func fs) #[] #[]] 140)
 have hR:=RdI.lit [id] 3 ((w.alloc (.cells #[.pointer (some ⟨p,0,none⟩)] 26)).alloc (.cells #[.func (.func fs) #[] #[]] 140)) (by intro x hx;simp at hx;subst hx;exact hid)
 have hB3:=hB2.alloc hB2.size (.cells ([id].map (Value.int .i64)).toArray 3)
 have hz2:w.heap.size+1<((w.alloc (.cells #[.pointer (some ⟨p,0,none⟩)] 26)).alloc (.cells #[.func (.func fs) #[] #[]] 140)).heap.size:=by simp
 have hx3:=(Below.heap_alloc _ (.cells ([id].map (Value.int .i64)).toArray 3) w.heap.size (by omega)).trans hx2
 have hy3:=(Below.heap_alloc _ (.cells ([id].map (Value.int .i64)).toArray 3) (w.heap.size+1) hz2).trans hy2
 simp only [World.size_alloc] at hR
 simp only [List.map_cons,List.map_nil] at hR hB3 hx3 hy3
 generalize hw3:((w.alloc (.cells #[.pointer (some ⟨p,0,none⟩)] 26)).alloc (.cells #[.func (.func fs) #[] #[]] 140)).alloc (.cells #[.int .i64 id] 3)=w3 at *
 have hwk:=Lib.hid (walk_any B p T (some ⟨w.heap.size+1+1,0,none⟩) 1 1 [id] w3 (h.all hB3) ht hR (by decide))
 have hx3':=cell_p hx3 0
 have hlen:=(walkT_ok ht.ord [id]).1.small.2
 have hrange:=Lib.hid (walkT_ok ht.ord [id]).2
 have hle:=ht.sm.le
 have hX:=Lib.hid hx3
 have hY:=Lib.hid hy3
 have hT:=Lib.hid (h.all hB3)
 have hB:=Lib.hid hB3
 have ht':=Lib.hid ht
 have hf':=Lib.hid hf
 have hd:=@Lib.hid (((walkT T [id]).2.any fun x=>P (nodeX T x))=anyT T P id) rfl
 simp only [List.getElem?_toArray,List.getElem?_cons_zero] at hx3'
 have hxl:w.heap.size<w3.heap.size:=(Array.getElem?_eq_some_iff.1 hx3).1
 have hyl:w.heap.size+1<w3.heap.size:=(Array.getElem?_eq_some_iff.1 hy3).1
 generalize (walkT T [id]).2=L at *
 have hln:L.length<1099511627776:=by omega
 clear hB2 hx2 hy2 hR hB3 hz2 hx3 hy3 h ht hf hlen
 go_enter Tryz.func78,Tryz.ntmps78
 go_wp2_with fail
 refine hwk.out.mono ?_;rintro e w4 ⟨aL,cL,rfl,oL,b4⟩
 have hRL:=(RdI.own oL (fun x hx=>by have:=hrange.out x hx;omega)).2.1
 have hhas:=Lib.hid (hasG_any (fun x=>P (nodeX T x)) 123 [.pointer (some ⟨w.heap.size,0,none⟩),.pointer (some ⟨w.heap.size+1,0,none⟩)] aL L.length cL L w4 hRL hln
  (enters_of Tryz.func123 (by kernel_rfl) rfl) (fun w1 hw x _=>any1_any hf'.out hen B p T x w.heap.size (w.heap.size+1) w1 ((hT.out.all b4).all hw) ht'.out.sn
   ((hw.block _ (Nat.lt_of_lt_of_le hxl b4.size)).trans ((b4.block _ hxl).trans hX.out)) ((hw.block _ (Nat.lt_of_lt_of_le hyl b4.size)).trans ((b4.block _ hyl).trans hY.out))))
 have B4:=Lib.hid (hB.out.trans (b4.mono hB.out.size))
 clear hRL oL b4 hwk
 go_wp2_with fail
 refine hhas.out.mono ?_;rintro e w5 ⟨rfl,hb5⟩
 have B5:=Lib.hid (B4.out.trans (hb5.mono B4.out.size))
 clear hb5 hhas
 go_wp2
 go_ret
 exact⟨ret_bool hd.out,B5.out⟩
theorem fchoice_any (B p:Nat) (T:TermD) (id:Int) (w:World) (h:TermX B p T w) (ht:TermOk T) (hid:okI id) :
  Calls Tryz.prog 82 #[.pointer (some ⟨p,0,none⟩),.int .i64 id] w fun e w'=>e = .returned (.bool (anyT T choiceN id))∧Below w.heap.size w w':=by
 have ha:=Lib.hid (fany_any choice1_any (enters_of Tryz.func125 (by kernel_rfl) rfl) B p T id w h ht hid)
 clear h ht
 go_enter Tryz.func82,Tryz.ntmps82
 go_wp2_with fail
 refine ha.out.mono ?_;rintro e w1 ⟨rfl,hb⟩
 go_wp2
 go_ret
 exact⟨rfl,hb⟩
theorem plain_any (B p:Nat) (T:TermD) (id:Int) (w:World) (h:TermX B p T w) (ht:TermOk T) (hid:okI id) :
  Calls Tryz.prog 27 #[.pointer (some ⟨p,0,none⟩),.int .i64 id] w fun e w'=>e = .returned (.bool (plainT T id))∧Below w.heap.size w w':=by
 have ha:=Lib.hid (fany_any applied_any (enters_of Tryz.func79 (by kernel_rfl) rfl) B p T id w h ht hid)
 have hs:=tsort_any B p T id w h
 have hd:=@Lib.hid (plainT T id=(hasT T id && !anyT T appliedN id)) rfl
 clear h ht
 unfold sortOf at hs
 cases hi:hasT T id
 case false=>
  rw [hi] at hs hd
  have hs':=Lib.hid hs
  have hv:=Lib.hid (show false=plainT T id from by rw [hd.out];rfl)
  clear hs hd
  go_enter Tryz.func27,Tryz.ntmps27
  go_wp2_with fail
  refine hs'.out.mono ?_;rintro e w1 ⟨rfl,rfl⟩
  go_wp2
  go_ret
  exact⟨ret_bool hv.out,Below.refl _ _⟩
 case true=>
  rw [hi] at hs hd
  have hs':=Lib.hid hs
  have hv:=Lib.hid (show(!anyT T appliedN id)=plainT T id from by rw [hd.out];rfl)
  clear hs hd
  generalize anyT T appliedN id=z at *
  go_enter Tryz.func27,Tryz.ntmps27
  go_wp2_with fail
  refine hs'.out.mono ?_;rintro e w1 ⟨rfl,rfl⟩
  go_wp2_with fail
  refine ha.out.mono ?_;rintro e w2 ⟨rfl,hb⟩
  go_wp2
  go_ret
  exact⟨ret_bool hv.out,hb⟩
end Go.Proofs.YtgoojkiccdjplaaGreatDoor
