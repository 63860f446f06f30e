/-
  Parts of this claim's texts, one behind the other: FM ZF RA. No condition.
-/
import Derived.Test.YtgoojkiccdjplaaGreatDoorN21
import Derived.Test.YtgoojkiccdjplaaGreatDoorN15
import Derived.Test.YtgoojkiccdjplaaGreatDoorN2
set_option linter.unusedVariables false
set_option linter.unusedSimpArgs false
set_option maxRecDepth 100000
set_option maxHeartbeats 16000000
namespace Go.Proofs.YtgoojkiccdjplaaGreatDoor
open Go.RowKit Go.Sort Go.Lib
set_option linter.unusedVariables false
def evalNode (m:ModD) (x:NodeD) (l:List ValD):ValD × Int:=
 if x.op=1∨x.op=2 then(truthV (decide (x.op=1)),0)
 else if x.op=3∨x.op=4∨x.op=5∨x.op=6∨x.op=7 then(truthV (logicV x.op l),0)
 else if x.op=8∨x.op=9 then(truthV (equalV (decide (x.op=8)) l),0)
 else if x.op=17∨x.op=18∨x.op=19∨x.op=20 then(truthV (orderV x.op l),0)
 else if x.op=10 then(if (valAtL l 0).bool then valAtL l 1 else valAtL l 2,0)
 else if x.op=11 then(⟨1,false,x.val,0⟩,0)
 else if x.op=12 then match findT m x.name with
  | none=>(noVal,5)
  | some t=>(applyT t l,0)
 else(⟨1,false,(countV x.op l).1,0⟩,(countV x.op l).2)
theorem findT_small {m:ModD} {nm:ByteArray} (h:smallM m) (hs:(findT m nm).isSome=true):smallT ((findT m nm).getD noTb):=by
 cases hf:findT m nm with
 | none=>rw [hf] at hs;cases hs
 | some t=>exact h.1 t (List.mem_of_find?_eq_some hf)
def arOk (op:Int) (n:Nat):Prop:=(op=1∨op=2∨op=8∨op=9∨op=11∨op=12∨1≤n)∧(op=10→3≤n)
def NodeP (S:Nat→Prop) (r:ValD × Int) (w:World) (e:Ending) (w':World):Prop:=∃a c b d,e = .returned (.tuple #[valV r.1 a c b d,.int .i64 r.2])∧ValS (OldF S w w') w' r.1 a c b d∧Below w.heap.size w w'
section
variable {S S' : Nat → Prop} {w W W' : World}
theorem mtruth_at (b:Bool) (w:World):Calls Tryz.prog 139 #[.bool b] w fun e w'=>∃a c b1 d,e = .returned (.agg #[.int .i64 0,.bool b,.bool false,.slice a 0 c,.slice b1 0 d,.int .i64 0])∧ValS (DatF w.heap.size w') w' (truthV b) a c b1 d∧Below w.heap.size w w':=mtruth_any b w
theorem ValS.old {v:ValD} {a b:Option Addr} {c d:Nat} (h:ValS S w v a c b d):ValS (OldF S w w) w v a c b d:=h.mono fun _ hk hS=>.inl ⟨hk,hS⟩
theorem ValS.moveBelow {v:ValD} {a b:Option Addr} {c d:Nat} (h:ValS (OldF S w W) W v a c b d) (hb:Below W.heap.size W W'):ValS (OldF S w W') W' v a c b d:=
 (h.below hb (Nat.le_refl _)).mono fun k _ hS=>hS.elim .inl fun h=>.inr ⟨h.1.same (hb.block k h.1.lt),h.2⟩
theorem nodeEnd {v:ValD} {er:Int} {a b:Option Addr} {c d p:Nat} {cs:Array Value} (hp:W.heap[p]? = some (.cells cs 64 (0,0))) (hwp:w.heap.size≤p) (V:ValS (OldF S w W) W v a c b d) (hb:Below w.heap.size w W) (l:List (Nat × Value)):NodeP S (v,er) w (.returned (.tuple #[valV v a c b d,.int .i64 er])) (setL p l W):=by
 obtain ⟨q1,q2,q3⟩:=setL_dat (p:=p) (by decide) (by decide) l W cs hp
 refine⟨a,c,b,d,rfl,(V.keep (fun k _ hk=>hk.elim (fun h=>setL_other (by omega) l W) fun h=>q1 k h.1) (Nat.le_of_eq q2.symm)).mono fun k _ hk=>hk.elim .inl fun h=>.inr ⟨h.1.same (q1 k h.1),h.2⟩,q3 _ _ hwp hb⟩
theorem evalApp {m:ModD} {x:NodeD} {l:List ValD} (h:x.op=12):evalNode m x l=if (findT m x.name).isSome=true then(applyT ((findT m x.name).getD noTb) l,(0:Int)) else(noVal,5):=by
 unfold evalNode
 rw [h]
 rw [if_neg (by decide),if_neg (by decide),if_neg (by decide),if_neg (by decide),if_neg (by decide),if_neg (by decide),if_pos rfl]
 cases findT m x.name <;> rfl
structure Find8 (w0:World) (t:TbD) (p8:Nat) (ra:Option Addr) (rc:Nat) (a:Option Addr) (c:Nat) (b:Option Addr) (d:Nat) (W:World):Prop where
 x:W.heap[p8]? = some (.cells #[.string t.name,.slice ra t.rows.length rc,.int .i64 t.els.sort,.bool t.els.bool,.bool t.els.num.neg,.slice a t.els.num.num.length c,.slice b t.els.num.den.length d,.int .i64 t.els.el] 67 (0,0))
 t:TbS (fun q=>q≠p8) W t ra rc a c b d
 b:Below w0.heap.size w0 W
theorem TbS.below {t:TbD} {ra:Option Addr} {rc:Nat} {a b:Option Addr} {c d B:Nat} (h:TbS S W t ra rc a c b d) (hb:Below B W W') (hB:W.heap.size≤B):TbS S W' t ra rc a c b d:=⟨h.rows.below hb hB,h.rcc,h.els.below hb hB⟩
theorem TbS.mono {t:TbD} {ra:Option Addr} {rc:Nat} {a b:Option Addr} {c d:Nat} (h:TbS S W t ra rc a c b d) (hk:∀q,q<W.heap.size→S q→S' q):TbS S' W t ra rc a c b d:=⟨h.rows.mono hk,h.rcc,h.els.mono hk⟩
theorem find8 {w0:World} {t:TbD} {p8:Nat} {v0 v1 v2 v3 v4 v5 v6 v7:Value} {ra:Option Addr} {rc:Nat} {a b:Option Addr} {c d:Nat} (hx:W.heap[p8]? = some (.cells #[v0,v1,v2,v3,v4,v5,v6,v7] 67 (0,0))) (T:TbS (fun q=>q≠p8) W t ra rc a c b d) (hb:Below w0.heap.size w0 W) (hp:w0.heap.size≤p8) :
  Find8 w0 t p8 ra rc a c b d (setL p8 [(0,.string t.name),(1,.slice ra t.rows.length rc),(2,.int .i64 t.els.sort),(3,.bool t.els.bool),(4,.bool t.els.num.neg),(5,.slice a t.els.num.num.length c),(6,.slice b t.els.num.den.length d),(7,.int .i64 t.els.el)] W):=by
 obtain ⟨_,q2,q3⟩:=setL_dat (p:=p8) (by decide) (by decide) [(0,.string t.name),(1,.slice ra t.rows.length rc),(2,.int .i64 t.els.sort),(3,.bool t.els.bool),(4,.bool t.els.num.neg),(5,.slice a t.els.num.num.length c),(6,.slice b t.els.num.den.length d),(7,.int .i64 t.els.el)] W _ hx
 exact⟨(setL_heap _ W _ hx).trans (by simp only [List.foldl_cons,List.foldl_nil];simp),⟨T.rows.keep (fun q _ hq=>setL_other hq _ W) (Nat.le_of_eq q2.symm),T.rcc,T.els.keep (fun q _ hq=>setL_other hq _ W) (Nat.le_of_eq q2.symm)⟩,q3 _ _ hp hb⟩
theorem mnode_h1 (p:Nat) (tbs:ModD) (ma:Option Addr) (mc:Nat) (x:NodeD) (a:Option Addr) (c:Nat) (b:Option Addr) (d:Nat) (g:Option Addr) (e:Nat) (la:Option Addr) (ln lc:Nat) (l:List ValD) (w:World)
  (hp:w.cell? ⟨p,1,none⟩=some (.slice ma tbs.length mc)) (hm:ModS S w tbs ma mc) (hsm:smallM tbs) (hx:NodeS S w x a c b d g e) (h:SlR repV S w la ln l) (hc:ln≤lc) (hn:ln≤1000000) (hs:∀v∈l,smallV v) (har:arOk x.op ln) (h1:x.op=1∨x.op=2) :
  Calls Tryz.prog 90 #[.pointer (some ⟨p,0,none⟩),nodeV x a c b d g e,.slice la ln lc] w fun e w'=>NodeP S (evalNode tbs x l) w e w':=by
 obtain ⟨z,hz⟩:∃z,evalNode tbs x l=z:=⟨_,rfl⟩
 have hzz:=hid hz
 rw [hz]
 obtain ⟨op,nm,⟨ng,nu,de⟩,args,so⟩:=x
 have HM:=hid hm
 have HS:=hid hsm
 have HX:=hid hx
 have HL:=hid h
 have hs':=hid hs
 have hl:=hid h.1
 have hr1:=hid har.1
 have hr2:=hid har.2
 dsimp only at *
 have Hh1:=hid h1
 clear h1
 clear hz hm hsm hx h hs har
 have X0:=hid (heap2b w (.cells #[.int .i64 op,.string nm,.bool ng,.slice a nu.length c,.slice b de.length d,.slice g args.length e,.int .i64 so] 38) (.cells #[.int .i64 0,.bool false,.bool false,.slice none 0 0,.slice none 0 0,.int .i64 0] 64))
 have x1:=heap2a w (.cells #[.int .i64 op,.string nm,.bool ng,.slice a nu.length c,.slice b de.length d,.slice g args.length e,.int .i64 so] 38) (.cells #[.int .i64 0,.bool false,.bool false,.slice none 0 0,.slice none 0 0,.int .i64 0] 64)
 have hB0:=hid (below2 w (.cells #[.int .i64 op,.string nm,.bool ng,.slice a nu.length c,.slice b de.length d,.slice g args.length e,.int .i64 so] 38) (.cells #[.int .i64 0,.bool false,.bool false,.slice none 0 0,.slice none 0 0,.int .i64 0] 64))
 generalize hw0:(w.alloc (.cells #[.int .i64 op,.string nm,.bool ng,.slice a nu.length c,.slice b de.length d,.slice g args.length e,.int .i64 so] 38)).alloc (.cells #[.int .i64 0,.bool false,.bool false,.slice none 0 0,.slice none 0 0,.int .i64 0] 64)=w0 at *
 have q0:w0.cell? ⟨w.heap.size,0,none⟩=some (.int .i64 op):=cell_p x1 0
 have q1:w0.cell? ⟨w.heap.size,1,none⟩=some (.string nm):=cell_p x1 1
 have q2:w0.cell? ⟨w.heap.size,2,none⟩=some (.bool ng):=cell_p x1 2
 have q3:w0.cell? ⟨w.heap.size,3,none⟩=some (.slice a nu.length c):=cell_p x1 3
 have q4:w0.cell? ⟨w.heap.size,4,none⟩=some (.slice b de.length d):=cell_p x1 4
 have qp:=keep_cell hB0.out hp
 clear x1
 go_enter Tryz.func90,Tryz.ntmps90
 go_upto_region 1 with fail
 clear hw0 hp
 have h1:=Hh1.out
 clear Hh1
 rcases h1 with rfl | rfl
 ·have hv:=hid (show(truthV true,(0:Int))=z from hzz.out)
  have htr:=hid (mtruth_at (true) w0)
  go_wp2_with fail
  refine htr.out.mono ?_
  rintro ee w9 ⟨a9,c9,b9,d9,rfl,V9,hb9⟩
  have X9:=hid ((hb9.block _ (Array.getElem?_eq_some_iff.1 X0.out).1).trans X0.out)
  have B9:=hid (hB0.out.trans (hb9.mono hB0.out.size))
  have V9':=hid (V9.mono (S':=OldF S w w9) fun q _ hq=>.inr ⟨hq.1,Nat.le_trans hB0.out.size hq.2⟩)
  clear V9 hb9 htr
  have NE:=hid (nodeEnd (v:=truthV (true)) (er:=0) X9.out (by omega) V9'.out B9.out [(0,.int .i64 0),(1,.bool (true)),(2,.bool false),(3,.slice a9 0 c9),(4,.slice b9 0 d9),(5,.int .i64 0)])
  have z0:=cell_p X9.out 0
  have z1:=cell_p X9.out 1
  have z2:=cell_p X9.out 2
  have z3:=cell_p X9.out 3
  have z4:=cell_p X9.out 4
  have z5:=cell_p X9.out 5
  have f0:=frz_p X9.out 0
  have f1:=frz_p X9.out 1
  have f2:=frz_p X9.out 2
  have f3:=frz_p X9.out 3
  have f4:=frz_p X9.out 4
  have f5:=frz_p X9.out 5
  simp only [List.getElem?_toArray,List.getElem?_cons_succ,List.getElem?_cons_zero] at z0 z1 z2 z3 z4 z5
  go_wp2
  refine bodyPost_ret (v:=.tuple #[.agg #[.int .i64 0,.bool (true),.bool false,.slice a9 0 c9,.slice b9 0 d9,.int .i64 0],.int .i64 0]) (by simp [results,Tryz.results90,go_sem, *]) rfl ?_
  rw [←hv.out]
  exact NE.out
 ·have hv:=hid (show(truthV false,(0:Int))=z from hzz.out)
  have htr:=hid (mtruth_at (false) w0)
  go_wp2_with fail
  refine htr.out.mono ?_
  rintro ee w9 ⟨a9,c9,b9,d9,rfl,V9,hb9⟩
  have X9:=hid ((hb9.block _ (Array.getElem?_eq_some_iff.1 X0.out).1).trans X0.out)
  have B9:=hid (hB0.out.trans (hb9.mono hB0.out.size))
  have V9':=hid (V9.mono (S':=OldF S w w9) fun q _ hq=>.inr ⟨hq.1,Nat.le_trans hB0.out.size hq.2⟩)
  clear V9 hb9 htr
  have NE:=hid (nodeEnd (v:=truthV (false)) (er:=0) X9.out (by omega) V9'.out B9.out [(0,.int .i64 0),(1,.bool (false)),(2,.bool false),(3,.slice a9 0 c9),(4,.slice b9 0 d9),(5,.int .i64 0)])
  have z0:=cell_p X9.out 0
  have z1:=cell_p X9.out 1
  have z2:=cell_p X9.out 2
  have z3:=cell_p X9.out 3
  have z4:=cell_p X9.out 4
  have z5:=cell_p X9.out 5
  have f0:=frz_p X9.out 0
  have f1:=frz_p X9.out 1
  have f2:=frz_p X9.out 2
  have f3:=frz_p X9.out 3
  have f4:=frz_p X9.out 4
  have f5:=frz_p X9.out 5
  simp only [List.getElem?_toArray,List.getElem?_cons_succ,List.getElem?_cons_zero] at z0 z1 z2 z3 z4 z5
  go_wp2
  refine bodyPost_ret (v:=.tuple #[.agg #[.int .i64 0,.bool (false),.bool false,.slice a9 0 c9,.slice b9 0 d9,.int .i64 0],.int .i64 0]) (by simp [results,Tryz.results90,go_sem, *]) rfl ?_
  rw [←hv.out]
  exact NE.out
theorem mnode_h3 (p:Nat) (tbs:ModD) (ma:Option Addr) (mc:Nat) (x:NodeD) (a:Option Addr) (c:Nat) (b:Option Addr) (d:Nat) (g:Option Addr) (e:Nat) (la:Option Addr) (ln lc:Nat) (l:List ValD) (w:World)
  (hp:w.cell? ⟨p,1,none⟩=some (.slice ma tbs.length mc)) (hm:ModS S w tbs ma mc) (hsm:smallM tbs) (hx:NodeS S w x a c b d g e) (h:SlR repV S w la ln l) (hc:ln≤lc) (hn:ln≤1000000) (hs:∀v∈l,smallV v) (har:arOk x.op ln) (h1:¬(x.op=1∨x.op=2)) (h3:x.op=3∨x.op=4∨x.op=5∨x.op=6∨x.op=7) :
  Calls Tryz.prog 90 #[.pointer (some ⟨p,0,none⟩),nodeV x a c b d g e,.slice la ln lc] w fun e w'=>NodeP S (evalNode tbs x l) w e w':=by
 obtain ⟨z,hz⟩:∃z,evalNode tbs x l=z:=⟨_,rfl⟩
 have hzz:=hid hz
 rw [hz]
 obtain ⟨op,nm,⟨ng,nu,de⟩,args,so⟩:=x
 have HM:=hid hm
 have HS:=hid hsm
 have HX:=hid hx
 have HL:=hid h
 have hs':=hid hs
 have hl:=hid h.1
 have hr1:=hid har.1
 have hr2:=hid har.2
 dsimp only at *
 have Hh1:=hid h1
 have Hh3:=hid h3
 clear h1 h3
 clear hz hm hsm hx h hs har
 have X0:=hid (heap2b w (.cells #[.int .i64 op,.string nm,.bool ng,.slice a nu.length c,.slice b de.length d,.slice g args.length e,.int .i64 so] 38) (.cells #[.int .i64 0,.bool false,.bool false,.slice none 0 0,.slice none 0 0,.int .i64 0] 64))
 have x1:=heap2a w (.cells #[.int .i64 op,.string nm,.bool ng,.slice a nu.length c,.slice b de.length d,.slice g args.length e,.int .i64 so] 38) (.cells #[.int .i64 0,.bool false,.bool false,.slice none 0 0,.slice none 0 0,.int .i64 0] 64)
 have hB0:=hid (below2 w (.cells #[.int .i64 op,.string nm,.bool ng,.slice a nu.length c,.slice b de.length d,.slice g args.length e,.int .i64 so] 38) (.cells #[.int .i64 0,.bool false,.bool false,.slice none 0 0,.slice none 0 0,.int .i64 0] 64))
 generalize hw0:(w.alloc (.cells #[.int .i64 op,.string nm,.bool ng,.slice a nu.length c,.slice b de.length d,.slice g args.length e,.int .i64 so] 38)).alloc (.cells #[.int .i64 0,.bool false,.bool false,.slice none 0 0,.slice none 0 0,.int .i64 0] 64)=w0 at *
 have q0:w0.cell? ⟨w.heap.size,0,none⟩=some (.int .i64 op):=cell_p x1 0
 have q1:w0.cell? ⟨w.heap.size,1,none⟩=some (.string nm):=cell_p x1 1
 have q2:w0.cell? ⟨w.heap.size,2,none⟩=some (.bool ng):=cell_p x1 2
 have q3:w0.cell? ⟨w.heap.size,3,none⟩=some (.slice a nu.length c):=cell_p x1 3
 have q4:w0.cell? ⟨w.heap.size,4,none⟩=some (.slice b de.length d):=cell_p x1 4
 have qp:=keep_cell hB0.out hp
 clear x1
 go_enter Tryz.func90,Tryz.ntmps90
 go_upto_region 1 with fail
 clear hw0 hp
 have h1:=Hh1.out
 clear Hh1
 have h3:=Hh3.out
 clear Hh3
 have hz0:=hid (show(truthV (logicV op l),(0:Int))=z from by rw [←hzz.out];exact((if_neg h1).trans (if_pos h3)).symm)
 have hcl:=hid (mlogic_any op la ln lc l w0 (HL.out.below hB0.out (Nat.le_refl _)) (by have:=hr1.out;omega) hc hn)
 obtain ⟨bb,hbb⟩:∃bb,logicV op l=bb:=⟨_,rfl⟩
 rw [hbb] at hcl hz0
 clear hbb hzz h1 hr1 hr2
 rcases h3 with rfl | rfl | rfl | rfl | rfl <;> (
  go_wp2_with fail
  refine hcl.out.mono ?_
  rintro ee w8 ⟨rfl,hb8⟩
  have X8:=hid ((hb8.block _ (Array.getElem?_eq_some_iff.1 X0.out).1).trans X0.out)
  have B8:=hid (hB0.out.trans (hb8.mono hB0.out.size))
  clear hb8 hcl
  have htr:=hid (mtruth_at (bb) w8)
  go_wp2_with fail
  refine htr.out.mono ?_
  rintro ee w9 ⟨a9,c9,b9,d9,rfl,V9,hb9⟩
  have X9:=hid ((hb9.block _ (Array.getElem?_eq_some_iff.1 X8.out).1).trans X8.out)
  have B9:=hid (B8.out.trans (hb9.mono B8.out.size))
  have V9':=hid (V9.mono (S':=OldF S w w9) fun q _ hq=>.inr ⟨hq.1,Nat.le_trans B8.out.size hq.2⟩)
  clear V9 hb9 htr
  have NE:=hid (nodeEnd (v:=truthV (bb)) (er:=0) X9.out (by omega) V9'.out B9.out [(0,.int .i64 0),(1,.bool (bb)),(2,.bool false),(3,.slice a9 0 c9),(4,.slice b9 0 d9),(5,.int .i64 0)])
  have z0:=cell_p X9.out 0
  have z1:=cell_p X9.out 1
  have z2:=cell_p X9.out 2
  have z3:=cell_p X9.out 3
  have z4:=cell_p X9.out 4
  have z5:=cell_p X9.out 5
  have f0:=frz_p X9.out 0
  have f1:=frz_p X9.out 1
  have f2:=frz_p X9.out 2
  have f3:=frz_p X9.out 3
  have f4:=frz_p X9.out 4
  have f5:=frz_p X9.out 5
  simp only [List.getElem?_toArray,List.getElem?_cons_succ,List.getElem?_cons_zero] at z0 z1 z2 z3 z4 z5
  go_wp2
  refine bodyPost_ret (v:=.tuple #[.agg #[.int .i64 0,.bool (bb),.bool false,.slice a9 0 c9,.slice b9 0 d9,.int .i64 0],.int .i64 0]) (by simp [results,Tryz.results90,go_sem, *]) rfl ?_
  rw [←hz0.out]
  exact NE.out)
theorem mnode_h8 (p:Nat) (tbs:ModD) (ma:Option Addr) (mc:Nat) (x:NodeD) (a:Option Addr) (c:Nat) (b:Option Addr) (d:Nat) (g:Option Addr) (e:Nat) (la:Option Addr) (ln lc:Nat) (l:List ValD) (w:World)
  (hp:w.cell? ⟨p,1,none⟩=some (.slice ma tbs.length mc)) (hm:ModS S w tbs ma mc) (hsm:smallM tbs) (hx:NodeS S w x a c b d g e) (h:SlR repV S w la ln l) (hc:ln≤lc) (hn:ln≤1000000) (hs:∀v∈l,smallV v) (har:arOk x.op ln) (h1:¬(x.op=1∨x.op=2)) (h3:¬(x.op=3∨x.op=4∨x.op=5∨x.op=6∨x.op=7)) (h8:x.op=8∨x.op=9) :
  Calls Tryz.prog 90 #[.pointer (some ⟨p,0,none⟩),nodeV x a c b d g e,.slice la ln lc] w fun e w'=>NodeP S (evalNode tbs x l) w e w':=by
 obtain ⟨z,hz⟩:∃z,evalNode tbs x l=z:=⟨_,rfl⟩
 have hzz:=hid hz
 rw [hz]
 obtain ⟨op,nm,⟨ng,nu,de⟩,args,so⟩:=x
 have HM:=hid hm
 have HS:=hid hsm
 have HX:=hid hx
 have HL:=hid h
 have hs':=hid hs
 have hl:=hid h.1
 have hr1:=hid har.1
 have hr2:=hid har.2
 dsimp only at *
 have Hh1:=hid h1
 have Hh3:=hid h3
 have Hh8:=hid h8
 clear h1 h3 h8
 clear hz hm hsm hx h hs har
 have X0:=hid (heap2b w (.cells #[.int .i64 op,.string nm,.bool ng,.slice a nu.length c,.slice b de.length d,.slice g args.length e,.int .i64 so] 38) (.cells #[.int .i64 0,.bool false,.bool false,.slice none 0 0,.slice none 0 0,.int .i64 0] 64))
 have x1:=heap2a w (.cells #[.int .i64 op,.string nm,.bool ng,.slice a nu.length c,.slice b de.length d,.slice g args.length e,.int .i64 so] 38) (.cells #[.int .i64 0,.bool false,.bool false,.slice none 0 0,.slice none 0 0,.int .i64 0] 64)
 have hB0:=hid (below2 w (.cells #[.int .i64 op,.string nm,.bool ng,.slice a nu.length c,.slice b de.length d,.slice g args.length e,.int .i64 so] 38) (.cells #[.int .i64 0,.bool false,.bool false,.slice none 0 0,.slice none 0 0,.int .i64 0] 64))
 generalize hw0:(w.alloc (.cells #[.int .i64 op,.string nm,.bool ng,.slice a nu.length c,.slice b de.length d,.slice g args.length e,.int .i64 so] 38)).alloc (.cells #[.int .i64 0,.bool false,.bool false,.slice none 0 0,.slice none 0 0,.int .i64 0] 64)=w0 at *
 have q0:w0.cell? ⟨w.heap.size,0,none⟩=some (.int .i64 op):=cell_p x1 0
 have q1:w0.cell? ⟨w.heap.size,1,none⟩=some (.string nm):=cell_p x1 1
 have q2:w0.cell? ⟨w.heap.size,2,none⟩=some (.bool ng):=cell_p x1 2
 have q3:w0.cell? ⟨w.heap.size,3,none⟩=some (.slice a nu.length c):=cell_p x1 3
 have q4:w0.cell? ⟨w.heap.size,4,none⟩=some (.slice b de.length d):=cell_p x1 4
 have qp:=keep_cell hB0.out hp
 clear x1
 go_enter Tryz.func90,Tryz.ntmps90
 go_upto_region 1 with fail
 clear hw0 hp
 have h1:=Hh1.out
 clear Hh1
 have h3:=Hh3.out
 clear Hh3
 have h8:=Hh8.out
 clear Hh8
 have hz0:=hid (show(truthV (equalV (decide (op=8)) l),(0:Int))=z from by rw [←hzz.out];exact((if_neg h1).trans ((if_neg h3).trans (if_pos h8))).symm)
 have hcl:=hid (mequal_any op la ln lc l w0 (HL.out.below hB0.out (Nat.le_refl _)) hc hn hs'.out)
 obtain ⟨bb,hbb⟩:∃bb,equalV (decide (op=8)) l=bb:=⟨_,rfl⟩
 rw [hbb] at hcl hz0
 clear hbb hzz h1 h3 hr1 hr2
 rcases h8 with rfl | rfl <;> (
  go_wp2_with fail
  refine hcl.out.mono ?_
  rintro ee w8 ⟨rfl,hb8⟩
  have X8:=hid ((hb8.block _ (Array.getElem?_eq_some_iff.1 X0.out).1).trans X0.out)
  have B8:=hid (hB0.out.trans (hb8.mono hB0.out.size))
  clear hb8 hcl
  have htr:=hid (mtruth_at (bb) w8)
  go_wp2_with fail
  refine htr.out.mono ?_
  rintro ee w9 ⟨a9,c9,b9,d9,rfl,V9,hb9⟩
  have X9:=hid ((hb9.block _ (Array.getElem?_eq_some_iff.1 X8.out).1).trans X8.out)
  have B9:=hid (B8.out.trans (hb9.mono B8.out.size))
  have V9':=hid (V9.mono (S':=OldF S w w9) fun q _ hq=>.inr ⟨hq.1,Nat.le_trans B8.out.size hq.2⟩)
  clear V9 hb9 htr
  have NE:=hid (nodeEnd (v:=truthV (bb)) (er:=0) X9.out (by omega) V9'.out B9.out [(0,.int .i64 0),(1,.bool (bb)),(2,.bool false),(3,.slice a9 0 c9),(4,.slice b9 0 d9),(5,.int .i64 0)])
  have z0:=cell_p X9.out 0
  have z1:=cell_p X9.out 1
  have z2:=cell_p X9.out 2
  have z3:=cell_p X9.out 3
  have z4:=cell_p X9.out 4
  have z5:=cell_p X9.out 5
  have f0:=frz_p X9.out 0
  have f1:=frz_p X9.out 1
  have f2:=frz_p X9.out 2
  have f3:=frz_p X9.out 3
  have f4:=frz_p X9.out 4
  have f5:=frz_p X9.out 5
  simp only [List.getElem?_toArray,List.getElem?_cons_succ,List.getElem?_cons_zero] at z0 z1 z2 z3 z4 z5
  go_wp2
  refine bodyPost_ret (v:=.tuple #[.agg #[.int .i64 0,.bool (bb),.bool false,.slice a9 0 c9,.slice b9 0 d9,.int .i64 0],.int .i64 0]) (by simp [results,Tryz.results90,go_sem, *]) rfl ?_
  rw [←hz0.out]
  exact NE.out)
theorem mnode_h17 (p:Nat) (tbs:ModD) (ma:Option Addr) (mc:Nat) (x:NodeD) (a:Option Addr) (c:Nat) (b:Option Addr) (d:Nat) (g:Option Addr) (e:Nat) (la:Option Addr) (ln lc:Nat) (l:List ValD) (w:World)
  (hp:w.cell? ⟨p,1,none⟩=some (.slice ma tbs.length mc)) (hm:ModS S w tbs ma mc) (hsm:smallM tbs) (hx:NodeS S w x a c b d g e) (h:SlR repV S w la ln l) (hc:ln≤lc) (hn:ln≤1000000) (hs:∀v∈l,smallV v) (har:arOk x.op ln) (h1:¬(x.op=1∨x.op=2)) (h3:¬(x.op=3∨x.op=4∨x.op=5∨x.op=6∨x.op=7)) (h8:¬(x.op=8∨x.op=9)) (h17:x.op=17∨x.op=18∨x.op=19∨x.op=20) :
  Calls Tryz.prog 90 #[.pointer (some ⟨p,0,none⟩),nodeV x a c b d g e,.slice la ln lc] w fun e w'=>NodeP S (evalNode tbs x l) w e w':=by
 obtain ⟨z,hz⟩:∃z,evalNode tbs x l=z:=⟨_,rfl⟩
 have hzz:=hid hz
 rw [hz]
 obtain ⟨op,nm,⟨ng,nu,de⟩,args,so⟩:=x
 have HM:=hid hm
 have HS:=hid hsm
 have HX:=hid hx
 have HL:=hid h
 have hs':=hid hs
 have hl:=hid h.1
 have hr1:=hid har.1
 have hr2:=hid har.2
 dsimp only at *
 have Hh1:=hid h1
 have Hh3:=hid h3
 have Hh8:=hid h8
 have Hh17:=hid h17
 clear h1 h3 h8 h17
 clear hz hm hsm hx h hs har
 have X0:=hid (heap2b w (.cells #[.int .i64 op,.string nm,.bool ng,.slice a nu.length c,.slice b de.length d,.slice g args.length e,.int .i64 so] 38) (.cells #[.int .i64 0,.bool false,.bool false,.slice none 0 0,.slice none 0 0,.int .i64 0] 64))
 have x1:=heap2a w (.cells #[.int .i64 op,.string nm,.bool ng,.slice a nu.length c,.slice b de.length d,.slice g args.length e,.int .i64 so] 38) (.cells #[.int .i64 0,.bool false,.bool false,.slice none 0 0,.slice none 0 0,.int .i64 0] 64)
 have hB0:=hid (below2 w (.cells #[.int .i64 op,.string nm,.bool ng,.slice a nu.length c,.slice b de.length d,.slice g args.length e,.int .i64 so] 38) (.cells #[.int .i64 0,.bool false,.bool false,.slice none 0 0,.slice none 0 0,.int .i64 0] 64))
 generalize hw0:(w.alloc (.cells #[.int .i64 op,.string nm,.bool ng,.slice a nu.length c,.slice b de.length d,.slice g args.length e,.int .i64 so] 38)).alloc (.cells #[.int .i64 0,.bool false,.bool false,.slice none 0 0,.slice none 0 0,.int .i64 0] 64)=w0 at *
 have q0:w0.cell? ⟨w.heap.size,0,none⟩=some (.int .i64 op):=cell_p x1 0
 have q1:w0.cell? ⟨w.heap.size,1,none⟩=some (.string nm):=cell_p x1 1
 have q2:w0.cell? ⟨w.heap.size,2,none⟩=some (.bool ng):=cell_p x1 2
 have q3:w0.cell? ⟨w.heap.size,3,none⟩=some (.slice a nu.length c):=cell_p x1 3
 have q4:w0.cell? ⟨w.heap.size,4,none⟩=some (.slice b de.length d):=cell_p x1 4
 have qp:=keep_cell hB0.out hp
 clear x1
 go_enter Tryz.func90,Tryz.ntmps90
 go_upto_region 1 with fail
 clear hw0 hp
 have h1:=Hh1.out
 clear Hh1
 have h3:=Hh3.out
 clear Hh3
 have h8:=Hh8.out
 clear Hh8
 have h17:=Hh17.out
 clear Hh17
 have hz0:=hid (show(truthV (orderV op l),(0:Int))=z from by rw [←hzz.out];exact((if_neg h1).trans ((if_neg h3).trans ((if_neg h8).trans (if_pos h17)))).symm)
 have hcl:=hid (morder_any op la ln lc l w0 (HL.out.below hB0.out (Nat.le_refl _)) (by have:=hr1.out;omega) hc hn hs'.out)
 obtain ⟨bb,hbb⟩:∃bb,orderV op l=bb:=⟨_,rfl⟩
 rw [hbb] at hcl hz0
 clear hbb hzz h1 h3 h8 hr1 hr2
 rcases h17 with rfl | rfl | rfl | rfl <;> (
  go_wp2_with fail
  refine hcl.out.mono ?_
  rintro ee w8 ⟨rfl,hb8⟩
  have X8:=hid ((hb8.block _ (Array.getElem?_eq_some_iff.1 X0.out).1).trans X0.out)
  have B8:=hid (hB0.out.trans (hb8.mono hB0.out.size))
  clear hb8 hcl
  have htr:=hid (mtruth_at (bb) w8)
  go_wp2_with fail
  refine htr.out.mono ?_
  rintro ee w9 ⟨a9,c9,b9,d9,rfl,V9,hb9⟩
  have X9:=hid ((hb9.block _ (Array.getElem?_eq_some_iff.1 X8.out).1).trans X8.out)
  have B9:=hid (B8.out.trans (hb9.mono B8.out.size))
  have V9':=hid (V9.mono (S':=OldF S w w9) fun q _ hq=>.inr ⟨hq.1,Nat.le_trans B8.out.size hq.2⟩)
  clear V9 hb9 htr
  have NE:=hid (nodeEnd (v:=truthV (bb)) (er:=0) X9.out (by omega) V9'.out B9.out [(0,.int .i64 0),(1,.bool (bb)),(2,.bool false),(3,.slice a9 0 c9),(4,.slice b9 0 d9),(5,.int .i64 0)])
  have z0:=cell_p X9.out 0
  have z1:=cell_p X9.out 1
  have z2:=cell_p X9.out 2
  have z3:=cell_p X9.out 3
  have z4:=cell_p X9.out 4
  have z5:=cell_p X9.out 5
  have f0:=frz_p X9.out 0
  have f1:=frz_p X9.out 1
  have f2:=frz_p X9.out 2
  have f3:=frz_p X9.out 3
  have f4:=frz_p X9.out 4
  have f5:=frz_p X9.out 5
  simp only [List.getElem?_toArray,List.getElem?_cons_succ,List.getElem?_cons_zero] at z0 z1 z2 z3 z4 z5
  go_wp2
  refine bodyPost_ret (v:=.tuple #[.agg #[.int .i64 0,.bool (bb),.bool false,.slice a9 0 c9,.slice b9 0 d9,.int .i64 0],.int .i64 0]) (by simp [results,Tryz.results90,go_sem, *]) rfl ?_
  rw [←hz0.out]
  exact NE.out)
theorem mnode_h10 (p:Nat) (tbs:ModD) (ma:Option Addr) (mc:Nat) (x:NodeD) (a:Option Addr) (c:Nat) (b:Option Addr) (d:Nat) (g:Option Addr) (e:Nat) (la:Option Addr) (ln lc:Nat) (l:List ValD) (w:World)
  (hp:w.cell? ⟨p,1,none⟩=some (.slice ma tbs.length mc)) (hm:ModS S w tbs ma mc) (hsm:smallM tbs) (hx:NodeS S w x a c b d g e) (h:SlR repV S w la ln l) (hc:ln≤lc) (hn:ln≤1000000) (hs:∀v∈l,smallV v) (har:arOk x.op ln) (h1:¬(x.op=1∨x.op=2)) (h3:¬(x.op=3∨x.op=4∨x.op=5∨x.op=6∨x.op=7)) (h8:¬(x.op=8∨x.op=9)) (h17:¬(x.op=17∨x.op=18∨x.op=19∨x.op=20)) (h10:x.op=10) :
  Calls Tryz.prog 90 #[.pointer (some ⟨p,0,none⟩),nodeV x a c b d g e,.slice la ln lc] w fun e w'=>NodeP S (evalNode tbs x l) w e w':=by
 obtain ⟨z,hz⟩:∃z,evalNode tbs x l=z:=⟨_,rfl⟩
 have hzz:=hid hz
 rw [hz]
 obtain ⟨op,nm,⟨ng,nu,de⟩,args,so⟩:=x
 have HM:=hid hm
 have HS:=hid hsm
 have HX:=hid hx
 have HL:=hid h
 have hs':=hid hs
 have hl:=hid h.1
 have hr1:=hid har.1
 have hr2:=hid har.2
 dsimp only at *
 have Hh1:=hid h1
 have Hh3:=hid h3
 have Hh8:=hid h8
 have Hh17:=hid h17
 have Hh10:=hid h10
 clear h1 h3 h8 h17 h10
 clear hz hm hsm hx h hs har
 have X0:=hid (heap2b w (.cells #[.int .i64 op,.string nm,.bool ng,.slice a nu.length c,.slice b de.length d,.slice g args.length e,.int .i64 so] 38) (.cells #[.int .i64 0,.bool false,.bool false,.slice none 0 0,.slice none 0 0,.int .i64 0] 64))
 have x1:=heap2a w (.cells #[.int .i64 op,.string nm,.bool ng,.slice a nu.length c,.slice b de.length d,.slice g args.length e,.int .i64 so] 38) (.cells #[.int .i64 0,.bool false,.bool false,.slice none 0 0,.slice none 0 0,.int .i64 0] 64)
 have hB0:=hid (below2 w (.cells #[.int .i64 op,.string nm,.bool ng,.slice a nu.length c,.slice b de.length d,.slice g args.length e,.int .i64 so] 38) (.cells #[.int .i64 0,.bool false,.bool false,.slice none 0 0,.slice none 0 0,.int .i64 0] 64))
 generalize hw0:(w.alloc (.cells #[.int .i64 op,.string nm,.bool ng,.slice a nu.length c,.slice b de.length d,.slice g args.length e,.int .i64 so] 38)).alloc (.cells #[.int .i64 0,.bool false,.bool false,.slice none 0 0,.slice none 0 0,.int .i64 0] 64)=w0 at *
 have q0:w0.cell? ⟨w.heap.size,0,none⟩=some (.int .i64 op):=cell_p x1 0
 have q1:w0.cell? ⟨w.heap.size,1,none⟩=some (.string nm):=cell_p x1 1
 have q2:w0.cell? ⟨w.heap.size,2,none⟩=some (.bool ng):=cell_p x1 2
 have q3:w0.cell? ⟨w.heap.size,3,none⟩=some (.slice a nu.length c):=cell_p x1 3
 have q4:w0.cell? ⟨w.heap.size,4,none⟩=some (.slice b de.length d):=cell_p x1 4
 have qp:=keep_cell hB0.out hp
 clear x1
 go_enter Tryz.func90,Tryz.ntmps90
 go_upto_region 1 with fail
 clear hw0 hp
 have h1:=Hh1.out
 clear Hh1
 have h3:=Hh3.out
 clear Hh3
 have h8:=Hh8.out
 clear Hh8
 have h17:=Hh17.out
 clear Hh17
 have h10:=Hh10.out
 clear Hh10
 have hm1:=hid h1
 subst h10
 have hz0:=hid (show((if (valAtL l 0).bool then valAtL l 1 else valAtL l 2),(0:Int))=z from hzz.out)
 have h3n:=hr2.out rfl
 clear h1 h3 h8 h17 hr1 hr2 hzz hm1
 have HL0:=hid ((HL.out.mono (S':=fun q=>q<w.heap.size∧S q) fun q hq hS=>⟨hq,hS⟩).below hB0.out (Nat.le_refl _))
 obtain ⟨b3,o3,a3,c3,e3,d3,rfl,_,hv3⟩:=HL0.out.valAt (valAtL_eq (l:=l) (k:=0) (by rw [hl.out];omega))
 obtain ⟨b4,o4,a4,c4,e4,d4,ha4,V4,hv4⟩:=HL0.out.valAt (valAtL_eq (l:=l) (k:=1) (by rw [hl.out];omega))
 obtain ⟨b5,o5,a5,c5,e5,d5,ha5,V5,hv5⟩:=HL0.out.valAt (valAtL_eq (l:=l) (k:=2) (by rw [hl.out];omega))
 cases ha4
 cases ha5
 have y1:w0.cell? ⟨b3,o3+1,none⟩=some (.bool (valAtL l 0).bool):=hv3 1 _ rfl
 have i0:(0:Int)<ln:=by omega
 have i1:(1:Int)<ln:=by omega
 have i2:(2:Int)<ln:=by omega
 have hvv:=hid (show ∀v a c b d,ValS (fun q=>q<w.heap.size∧S q) w0 v a c b d→ValS (OldF S w w0) w0 v a c b d from fun v a c b d h=>h.mono fun q _ hq=>.inl hq)
 generalize (valAtL l 0).bool=bv at *
 cases bv
 case false=>
  have hv:=hid (show(valAtL l 2,(0:Int))=z from hz0.out)
  have V:=hid (hvv.out _ _ _ _ _ V5)
  clear V4 V5 hv3 hv4 hz0 hvv
  generalize valAtL l 2=v at *
  obtain ⟨s8,b8,⟨n8,u8,d8⟩,e8⟩:=v
  have t0:w0.cell? ⟨b3,o3+12,none⟩=_:=hv5 0 _ rfl
  have t1:w0.cell? ⟨b3,o3+12+1,none⟩=_:=hv5 1 _ rfl
  have t2:w0.cell? ⟨b3,o3+12+2,none⟩=_:=hv5 2 _ rfl
  have t3:w0.cell? ⟨b3,o3+12+3,none⟩=_:=hv5 3 _ rfl
  have t4:w0.cell? ⟨b3,o3+12+4,none⟩=_:=hv5 4 _ rfl
  have t5:w0.cell? ⟨b3,o3+12+5,none⟩=_:=hv5 5 _ rfl
  clear hv5
  dsimp only at *
  have NE:=hid (nodeEnd (v:=⟨s8,b8,⟨n8,u8,d8⟩,e8⟩) (er:=0) X0.out (by omega) V.out hB0.out [(0,.int .i64 s8),(1,.bool b8),(2,.bool n8),(3,.slice a5 u8.length c5),(4,.slice e5 d8.length d5),(5,.int .i64 e8)])
  have z0:=cell_p X0.out 0
  have z1:=cell_p X0.out 1
  have z2:=cell_p X0.out 2
  have z3:=cell_p X0.out 3
  have z4:=cell_p X0.out 4
  have z5:=cell_p X0.out 5
  have f0:=frz_p X0.out 0
  have f1:=frz_p X0.out 1
  have f2:=frz_p X0.out 2
  have f3:=frz_p X0.out 3
  have f4:=frz_p X0.out 4
  have f5:=frz_p X0.out 5
  simp only [List.getElem?_toArray,List.getElem?_cons_succ,List.getElem?_cons_zero] at z0 z1 z2 z3 z4 z5
  go_wp2
  refine bodyPost_ret (v:=.tuple #[.agg #[.int .i64 s8,.bool b8,.bool n8,.slice a5 u8.length c5,.slice e5 d8.length d5,.int .i64 e8],.int .i64 0]) (by simp [results,Tryz.results90,go_sem, *]) rfl ?_
  rw [←hv.out]
  exact NE.out
 case true=>
  have hv:=hid (show(valAtL l 1,(0:Int))=z from hz0.out)
  have V:=hid (hvv.out _ _ _ _ _ V4)
  clear V4 V5 hv3 hv5 hz0 hvv
  generalize valAtL l 1=v at *
  obtain ⟨s8,b8,⟨n8,u8,d8⟩,e8⟩:=v
  have t0:w0.cell? ⟨b3,o3+6,none⟩=_:=hv4 0 _ rfl
  have t1:w0.cell? ⟨b3,o3+6+1,none⟩=_:=hv4 1 _ rfl
  have t2:w0.cell? ⟨b3,o3+6+2,none⟩=_:=hv4 2 _ rfl
  have t3:w0.cell? ⟨b3,o3+6+3,none⟩=_:=hv4 3 _ rfl
  have t4:w0.cell? ⟨b3,o3+6+4,none⟩=_:=hv4 4 _ rfl
  have t5:w0.cell? ⟨b3,o3+6+5,none⟩=_:=hv4 5 _ rfl
  clear hv4
  dsimp only at *
  have NE:=hid (nodeEnd (v:=⟨s8,b8,⟨n8,u8,d8⟩,e8⟩) (er:=0) X0.out (by omega) V.out hB0.out [(0,.int .i64 s8),(1,.bool b8),(2,.bool n8),(3,.slice a4 u8.length c4),(4,.slice e4 d8.length d4),(5,.int .i64 e8)])
  have z0:=cell_p X0.out 0
  have z1:=cell_p X0.out 1
  have z2:=cell_p X0.out 2
  have z3:=cell_p X0.out 3
  have z4:=cell_p X0.out 4
  have z5:=cell_p X0.out 5
  have f0:=frz_p X0.out 0
  have f1:=frz_p X0.out 1
  have f2:=frz_p X0.out 2
  have f3:=frz_p X0.out 3
  have f4:=frz_p X0.out 4
  have f5:=frz_p X0.out 5
  simp only [List.getElem?_toArray,List.getElem?_cons_succ,List.getElem?_cons_zero] at z0 z1 z2 z3 z4 z5
  go_wp2
  refine bodyPost_ret (v:=.tuple #[.agg #[.int .i64 s8,.bool b8,.bool n8,.slice a4 u8.length c4,.slice e4 d8.length d4,.int .i64 e8],.int .i64 0]) (by simp [results,Tryz.results90,go_sem, *]) rfl ?_
  rw [←hv.out]
  exact NE.out
theorem mnode_h11 (p:Nat) (tbs:ModD) (ma:Option Addr) (mc:Nat) (x:NodeD) (a:Option Addr) (c:Nat) (b:Option Addr) (d:Nat) (g:Option Addr) (e:Nat) (la:Option Addr) (ln lc:Nat) (l:List ValD) (w:World)
  (hp:w.cell? ⟨p,1,none⟩=some (.slice ma tbs.length mc)) (hm:ModS S w tbs ma mc) (hsm:smallM tbs) (hx:NodeS S w x a c b d g e) (h:SlR repV S w la ln l) (hc:ln≤lc) (hn:ln≤1000000) (hs:∀v∈l,smallV v) (har:arOk x.op ln) (h1:¬(x.op=1∨x.op=2)) (h3:¬(x.op=3∨x.op=4∨x.op=5∨x.op=6∨x.op=7)) (h8:¬(x.op=8∨x.op=9)) (h17:¬(x.op=17∨x.op=18∨x.op=19∨x.op=20)) (h10:¬(x.op=10)) (h11:x.op=11) :
  Calls Tryz.prog 90 #[.pointer (some ⟨p,0,none⟩),nodeV x a c b d g e,.slice la ln lc] w fun e w'=>NodeP S (evalNode tbs x l) w e w':=by
 obtain ⟨z,hz⟩:∃z,evalNode tbs x l=z:=⟨_,rfl⟩
 have hzz:=hid hz
 rw [hz]
 obtain ⟨op,nm,⟨ng,nu,de⟩,args,so⟩:=x
 have HM:=hid hm
 have HS:=hid hsm
 have HX:=hid hx
 have HL:=hid h
 have hs':=hid hs
 have hl:=hid h.1
 have hr1:=hid har.1
 have hr2:=hid har.2
 dsimp only at *
 have Hh1:=hid h1
 have Hh3:=hid h3
 have Hh8:=hid h8
 have Hh17:=hid h17
 have Hh10:=hid h10
 have Hh11:=hid h11
 clear h1 h3 h8 h17 h10 h11
 clear hz hm hsm hx h hs har
 have X0:=hid (heap2b w (.cells #[.int .i64 op,.string nm,.bool ng,.slice a nu.length c,.slice b de.length d,.slice g args.length e,.int .i64 so] 38) (.cells #[.int .i64 0,.bool false,.bool false,.slice none 0 0,.slice none 0 0,.int .i64 0] 64))
 have x1:=heap2a w (.cells #[.int .i64 op,.string nm,.bool ng,.slice a nu.length c,.slice b de.length d,.slice g args.length e,.int .i64 so] 38) (.cells #[.int .i64 0,.bool false,.bool false,.slice none 0 0,.slice none 0 0,.int .i64 0] 64)
 have hB0:=hid (below2 w (.cells #[.int .i64 op,.string nm,.bool ng,.slice a nu.length c,.slice b de.length d,.slice g args.length e,.int .i64 so] 38) (.cells #[.int .i64 0,.bool false,.bool false,.slice none 0 0,.slice none 0 0,.int .i64 0] 64))
 generalize hw0:(w.alloc (.cells #[.int .i64 op,.string nm,.bool ng,.slice a nu.length c,.slice b de.length d,.slice g args.length e,.int .i64 so] 38)).alloc (.cells #[.int .i64 0,.bool false,.bool false,.slice none 0 0,.slice none 0 0,.int .i64 0] 64)=w0 at *
 have q0:w0.cell? ⟨w.heap.size,0,none⟩=some (.int .i64 op):=cell_p x1 0
 have q1:w0.cell? ⟨w.heap.size,1,none⟩=some (.string nm):=cell_p x1 1
 have q2:w0.cell? ⟨w.heap.size,2,none⟩=some (.bool ng):=cell_p x1 2
 have q3:w0.cell? ⟨w.heap.size,3,none⟩=some (.slice a nu.length c):=cell_p x1 3
 have q4:w0.cell? ⟨w.heap.size,4,none⟩=some (.slice b de.length d):=cell_p x1 4
 have qp:=keep_cell hB0.out hp
 clear x1
 go_enter Tryz.func90,Tryz.ntmps90
 go_upto_region 1 with fail
 clear hw0 hp
 have h1:=Hh1.out
 clear Hh1
 have h3:=Hh3.out
 clear Hh3
 have h8:=Hh8.out
 clear Hh8
 have h17:=Hh17.out
 clear Hh17
 have h10:=Hh10.out
 clear Hh10
 have h11:=Hh11.out
 clear Hh11
 have hm1:=hid h1
 subst h11
 have hv:=hid (show((⟨1,false,⟨ng,nu,de⟩,0⟩:ValD),(0:Int))=z from hzz.out)
 have V:=hid (show ValS (OldF S w w0) w0 ⟨1,false,⟨ng,nu,de⟩,0⟩ a c b d from ValS.moveBelow (W:=w) (ValS.old ⟨(show okI 1 from⟨by decide,by decide⟩),(show okI 0 from⟨by decide,by decide⟩),HX.out.num,HX.out.nc,HX.out.den,HX.out.dc⟩) hB0.out)
 clear h1 h3 h8 h17 h10 hr1 hr2 hzz hm1
 have NE:=hid (nodeEnd (v:=⟨1,false,⟨ng,nu,de⟩,0⟩) (er:=0) X0.out (by omega) V.out hB0.out [(0,.int .i64 1),(1,.bool false),(2,.bool ng),(3,.slice a nu.length c),(4,.slice b de.length d),(5,.int .i64 0)])
 have z0:=cell_p X0.out 0
 have z1:=cell_p X0.out 1
 have z2:=cell_p X0.out 2
 have z3:=cell_p X0.out 3
 have z4:=cell_p X0.out 4
 have z5:=cell_p X0.out 5
 have f0:=frz_p X0.out 0
 have f1:=frz_p X0.out 1
 have f2:=frz_p X0.out 2
 have f3:=frz_p X0.out 3
 have f4:=frz_p X0.out 4
 have f5:=frz_p X0.out 5
 simp only [List.getElem?_toArray,List.getElem?_cons_succ,List.getElem?_cons_zero] at z0 z1 z2 z3 z4 z5
 go_wp2
 refine bodyPost_ret (v:=.tuple #[.agg #[.int .i64 1,.bool false,.bool ng,.slice a nu.length c,.slice b de.length d,.int .i64 0],.int .i64 0]) (by simp [results,Tryz.results90,go_sem, *]) rfl ?_
 rw [←hv.out]
 exact NE.out
theorem mnode_h12 (p : Nat) (tbs : ModD) (ma : Option Addr) (mc : Nat) (x : NodeD) (a : Option Addr) (c : Nat) (b : Option Addr) (d : Nat) (g : Option Addr) (e : Nat) (la : Option Addr) (ln lc : Nat) (l : List ValD) (w : World)
    (hp : w.cell? ⟨p, 1, none⟩ = some (.slice ma tbs.length mc)) (hm : ModS S w tbs ma mc) (hsm : smallM tbs) (hx : NodeS S w x a c b d g e) (h : SlR repV S w la ln l) (hc : ln ≤ lc) (hn : ln ≤ 1000000) (hs : ∀ v ∈ l, smallV v) (har : arOk x.op ln) (h1 : ¬ (x.op = 1 ∨ x.op = 2)) (h3 : ¬ (x.op = 3 ∨ x.op = 4 ∨ x.op = 5 ∨ x.op = 6 ∨ x.op = 7)) (h8 : ¬ (x.op = 8 ∨ x.op = 9)) (h17 : ¬ (x.op = 17 ∨ x.op = 18 ∨ x.op = 19 ∨ x.op = 20)) (h10 : ¬ (x.op = 10)) (h11 : ¬ (x.op = 11)) (h12 : x.op = 12) :
    Calls Tryz.prog 90 #[.pointer (some ⟨p, 0, none⟩), nodeV x a c b d g e, .slice la ln lc] w fun e w' => NodeP S (evalNode tbs x l) w e w' := by
  obtain ⟨z, hz⟩ : ∃ z, evalNode tbs x l = z := ⟨_, rfl⟩
  have hzz := hid hz
  rw [hz]
  obtain ⟨op, nm, ⟨ng, nu, de⟩, args, so⟩ := x
  have HM := hid hm
  have HS := hid hsm
  have HX := hid hx
  have HL := hid h
  have hs' := hid hs
  have hl := hid h.1
  have hr1 := hid har.1
  have hr2 := hid har.2
  dsimp only at *
  have Hh1 := hid h1
  have Hh3 := hid h3
  have Hh8 := hid h8
  have Hh17 := hid h17
  have Hh10 := hid h10
  have Hh11 := hid h11
  have Hh12 := hid h12
  clear h1 h3 h8 h17 h10 h11 h12
  clear hz hm hsm hx h hs har
  have X0 := hid (heap2b w (.cells #[.int .i64 op, .string nm, .bool ng, .slice a nu.length c, .slice b de.length d, .slice g args.length e, .int .i64 so] 38) (.cells #[.int .i64 0, .bool false, .bool false, .slice none 0 0, .slice none 0 0, .int .i64 0] 64))
  have x1 := heap2a w (.cells #[.int .i64 op, .string nm, .bool ng, .slice a nu.length c, .slice b de.length d, .slice g args.length e, .int .i64 so] 38) (.cells #[.int .i64 0, .bool false, .bool false, .slice none 0 0, .slice none 0 0, .int .i64 0] 64)
  have hB0 := hid (below2 w (.cells #[.int .i64 op, .string nm, .bool ng, .slice a nu.length c, .slice b de.length d, .slice g args.length e, .int .i64 so] 38) (.cells #[.int .i64 0, .bool false, .bool false, .slice none 0 0, .slice none 0 0, .int .i64 0] 64))
  generalize hw0 : (w.alloc (.cells #[.int .i64 op, .string nm, .bool ng, .slice a nu.length c, .slice b de.length d, .slice g args.length e, .int .i64 so] 38)).alloc (.cells #[.int .i64 0, .bool false, .bool false, .slice none 0 0, .slice none 0 0, .int .i64 0] 64) = w0 at *
  have q0 : w0.cell? ⟨w.heap.size, 0, none⟩ = some (.int .i64 op) := cell_p x1 0
  have q1 : w0.cell? ⟨w.heap.size, 1, none⟩ = some (.string nm) := cell_p x1 1
  have q2 : w0.cell? ⟨w.heap.size, 2, none⟩ = some (.bool ng) := cell_p x1 2
  have q3 : w0.cell? ⟨w.heap.size, 3, none⟩ = some (.slice a nu.length c) := cell_p x1 3
  have q4 : w0.cell? ⟨w.heap.size, 4, none⟩ = some (.slice b de.length d) := cell_p x1 4
  have qp := keep_cell hB0.out hp
  clear x1
  go_enter Tryz.func90, Tryz.ntmps90
  go_upto_region 1 with fail
  clear hw0 hp
  have h1 := Hh1.out
  clear Hh1
  have h3 := Hh3.out
  clear Hh3
  have h8 := Hh8.out
  clear Hh8
  have h17 := Hh17.out
  clear Hh17
  have h10 := Hh10.out
  clear Hh10
  have h11 := Hh11.out
  clear Hh11
  have h12 := Hh12.out
  clear Hh12
  have hm1 := hid h1
  subst h12
  clear h1 h3 h8 h17 h10 h11 hr1 hr2 hm1
  have hfi := hid (fun W (hW : Below w0.heap.size w0 W) => mfind_any tbs ma mc nm W ⟨((HM.out.tbs.mono (S' := fun q => q < w.heap.size ∧ S q) fun q hq hS => ⟨hq, hS⟩).below hB0.out (Nat.le_refl _)).below hW (Nat.le_refl _), HM.out.cap⟩ HS.out)
  have hwz := hid hB0.out.size
  go_upto_region 26 with fail
  go_cut [8, 9] from 69 to 78 (fun v8 v9 wc => ∃ (p8 : Nat) (ra : Option Addr) (rc : Nat) (ta : Option Addr) (tc : Nat) (tb2 : Option Addr) (td : Nat), v8 = .pointer (some ⟨p8, 0, none⟩) ∧ v9 = .bool (findT tbs nm).isSome ∧ Find8 w0 ((findT tbs nm).getD noTb) p8 ra rc ta tc tb2 td wc)
  case first =>
    clear hzz HL
    refine wp_region_tt (S := fun W => Below w0.heap.size w0 W) 12 (by kernel_rfl) (by kernel_rfl) (keep_drew w0) (fun hdr => ?_)
    have BB := hid (keep_drew w0)
    clear hdr
    generalize w0.drew = wc at *
    refine tt_take (i := 0) (v := _) (by rfl) (by decide +kernel) (by exact fun _ _ _ h => h) (Or.inl ⟨by rfl, by (intro W hSw; (try dsimp only at hSw); go_simp <;> with_reducible rfl)⟩) (by assumption) ?_
    (try simp only [Act.put, sA, sB, sC])
    refine tt_take (i := 1) (v := _) (by rfl) (by decide +kernel) (by exact fun _ _ _ h => h) (Or.inl ⟨by rfl, by (intro W hSw; (try dsimp only at hSw); go_simp <;> with_reducible rfl)⟩) (by assumption) ?_
    (try simp only [Act.put, sA, sB, sC])
    refine tt_take (i := 2) (v := _) (by rfl) (by decide +kernel) (by exact fun _ _ _ h => h) (Or.inl ⟨by rfl, by (intro W hSw; (try dsimp only at hSw); go_simp <;> with_reducible rfl)⟩) (by assumption) ?_
    (try simp only [Act.put, sA, sB, sC])
    refine tt_take (i := 3) (v := _) (by rfl) (by decide +kernel) (by exact fun _ _ _ h => h) (Or.inl ⟨by rfl, by (intro W hSw; have hq := keep_cell hSw qp; go_simp <;> with_reducible rfl)⟩) (by assumption) ?_
    (try simp only [Act.put, sA, sB, sC])
    refine tt_take (i := 4) (v := _) (by rfl) (by decide +kernel) (by exact fun _ _ _ h => h) (Or.inl ⟨by rfl, by (intro W hSw; (try dsimp only at hSw); go_simp <;> with_reducible rfl)⟩) (by assumption) ?_
    (try simp only [Act.put, sA, sB, sC])
    refine tt_take (i := 5) (v := _) (by rfl) (by decide +kernel) (by exact fun _ _ _ h => h) (Or.inl ⟨by rfl, by (intro W hSw; have hq := keep_cell hSw q1; go_simp <;> with_reducible rfl)⟩) (by assumption) ?_
    (try simp only [Act.put, sA, sB, sC])
    refine tt_ready (rs := [6, 10]) (by decide +kernel) (allT_cons (by rfl) (fun K hK => ?_) (allT_cons (by rfl) (fun K hK => ?_) allT_nil))
    · skip
      have hfc := hid (hfi.out wc BB.out)
      have hbs := hid BB.out.size
      go_simp
      go_at_call 41
      refine hfc.out.mono ?_
      rintro ee wn ⟨ra, rc, ta, tc, tb2, td, rfl, T9, bn⟩
      have BB := hid (BB.out.trans (bn.mono BB.out.size))
      have TF := hid (T9.mono (S' := fun q => (q < w.heap.size) ∨ wc.heap.size ≤ q) fun q _ hq => hq.elim (fun h => .inl h.2.1) .inr)
      (try have XI := hid ((bn.block _ (Array.getElem?_eq_some_iff.1 XI.out).1).trans XI.out))
      have bz := hid bn.size
      clear bn T9 hfc hfi
      (try dsimp only)
      have TG := hid (show TbS (fun q => q < w.heap.size ∨ wc.heap.size ≤ q) wn ((findT tbs nm).getD noTb) ra rc ta tc tb2 td from TF.out)
      clear TF
      first
        | (have TF := hid (TG.out.mono (S' := fun q => q ≠ pI) fun q _ hq => hq.elim (fun h => by have := hpI.out; omega) fun h => by have := hpI2.out; omega)
           clear TG)
        | (have TF := TG
           clear TG)
      clear hbs bz
      obtain ⟨wc, rfl⟩ : ∃ W, W = wn := ⟨_, rfl⟩
      refine hK.out _ _ (by (exact BB.out)) (fun hHeld2 => ?_)
      clear hK K
      (try simp only [Act.put, sA, sB, sC])
      refine tt_take (i := 7) (v := _) (by rfl) (by decide +kernel) (by exact fun _ _ _ h => h) (Or.inl ⟨by rfl, by (intro W hSw; (try dsimp only at hSw); go_simp <;> with_reducible rfl)⟩) (by assumption) ?_
      (try simp only [Act.put, sA, sB, sC])
      refine tt_take (i := 8) (v := _) (by rfl) (by decide +kernel) (by exact fun _ _ _ h => h) (Or.inl ⟨by rfl, by (intro W hSw; (try dsimp only at hSw); go_simp <;> with_reducible rfl)⟩) (by assumption) ?_
      (try simp only [Act.put, sA, sB, sC])
      refine tt_take (i := 9) (v := _) (by rfl) (by decide +kernel) (by exact fun _ _ _ h => h) (Or.inl ⟨by rfl, by (intro W hSw; (try dsimp only at hSw); go_simp <;> with_reducible rfl)⟩) (by assumption) ?_
      (try simp only [Act.put, sA, sB, sC])
      refine tt_ready (rs := [10]) (by decide +kernel) (allT_cons (by rfl) (fun K hK => ?_) allT_nil)
      go_simp
      have bn : Below wc.heap.size wc (wc.alloc (.cells #[.string ⟨#[]⟩, .slice none 0 0, .int .i64 0, .bool false, .bool false, .slice none 0 0, .slice none 0 0, .int .i64 0] 67)) := (Below.refl _ _).alloc (Nat.le_refl _) _
      have XN := hid (heap_alloc_new wc (.cells #[.string ⟨#[]⟩, .slice none 0 0, .int .i64 0, .bool false, .bool false, .slice none 0 0, .slice none 0 0, .int .i64 0] 67))
      have hpI := hid (Nat.le_trans hwz.out BB.out.size)
      have hpI0 := hid BB.out.size
      have hpI2 := hid (show wc.heap.size < (wc.alloc (.cells #[.string ⟨#[]⟩, .slice none 0 0, .int .i64 0, .bool false, .bool false, .slice none 0 0, .slice none 0 0, .int .i64 0] 67)).heap.size by simp)
      (try have TF := hid ((TF.out.mono (S' := fun q => q ≠ wc.heap.size) fun q hq _ => by omega).below bn (Nat.le_refl _)))
      generalize hwn : wc.alloc (.cells #[.string ⟨#[]⟩, .slice none 0 0, .int .i64 0, .bool false, .bool false, .slice none 0 0, .slice none 0 0, .int .i64 0] 67) = wn at *
      clear hwn
      have BB := hid (BB.out.trans (bn.mono BB.out.size))
      clear bn
      generalize wc.heap.size = pI at *
      obtain ⟨wc, rfl⟩ : ∃ W, W = wn := ⟨_, rfl⟩
      (try dsimp only)
      have XI := XN
      clear XN
      refine hK.out _ _ (by (exact BB.out)) (fun hHeld3 => ?_)
      clear hK K
      (try simp only [Act.put, sA, sB, sC])
      refine tt_ready (rs := [11]) (by decide +kernel) (allT_cons (by rfl) (fun K hK => ?_) allT_nil)
      have F8 := hid (find8 (w0 := w0) XI.out TF.out BB.out hpI0.out)
      have z0 := cell_p XI.out 0
      have z1 := cell_p XI.out 1
      have z2 := cell_p XI.out 2
      have z3 := cell_p XI.out 3
      have z4 := cell_p XI.out 4
      have z5 := cell_p XI.out 5
      have z6 := cell_p XI.out 6
      have z7 := cell_p XI.out 7
      have f0 := frz_p XI.out 0
      have f1 := frz_p XI.out 1
      have f2 := frz_p XI.out 2
      have f3 := frz_p XI.out 3
      have f4 := frz_p XI.out 4
      have f5 := frz_p XI.out 5
      have f6 := frz_p XI.out 6
      have f7 := frz_p XI.out 7
      simp only [List.getElem?_toArray, List.getElem?_cons_succ, List.getElem?_cons_zero] at z0 z1 z2 z3 z4 z5 z6 z7
      go_simp
      refine hK.out _ _ (by (exact F8.out.b)) (fun hHeld4 => ?_)
      clear hK K
      (try simp only [Act.put, sA, sB, sC])
      refine tt_tail (by decide +kernel) ?_
      simp only [List.drop_succ_cons, List.drop_zero]
      clear z0 z1 z2 z3 z4 z5 z6 z7
      go_wp2
      go_meet
      case rel => exact ⟨pI, ra, rc, ta, tc, tb2, td, rfl, rfl, F8.out⟩
    · skip
      go_simp
      have bn : Below wc.heap.size wc (wc.alloc (.cells #[.string ⟨#[]⟩, .slice none 0 0, .int .i64 0, .bool false, .bool false, .slice none 0 0, .slice none 0 0, .int .i64 0] 67)) := (Below.refl _ _).alloc (Nat.le_refl _) _
      have XN := hid (heap_alloc_new wc (.cells #[.string ⟨#[]⟩, .slice none 0 0, .int .i64 0, .bool false, .bool false, .slice none 0 0, .slice none 0 0, .int .i64 0] 67))
      have hpI := hid (Nat.le_trans hwz.out BB.out.size)
      have hpI0 := hid BB.out.size
      have hpI2 := hid (show wc.heap.size < (wc.alloc (.cells #[.string ⟨#[]⟩, .slice none 0 0, .int .i64 0, .bool false, .bool false, .slice none 0 0, .slice none 0 0, .int .i64 0] 67)).heap.size by simp)
      (try have TF := hid ((TF.out.mono (S' := fun q => q ≠ wc.heap.size) fun q hq _ => by omega).below bn (Nat.le_refl _)))
      generalize hwn : wc.alloc (.cells #[.string ⟨#[]⟩, .slice none 0 0, .int .i64 0, .bool false, .bool false, .slice none 0 0, .slice none 0 0, .int .i64 0] 67) = wn at *
      clear hwn
      have BB := hid (BB.out.trans (bn.mono BB.out.size))
      clear bn
      generalize wc.heap.size = pI at *
      obtain ⟨wc, rfl⟩ : ∃ W, W = wn := ⟨_, rfl⟩
      (try dsimp only)
      have XI := XN
      clear XN
      refine hK.out _ _ (by (exact BB.out)) (fun hHeld2 => ?_)
      clear hK K
      (try simp only [Act.put, sA, sB, sC])
      refine tt_ready (rs := [6]) (by decide +kernel) (allT_cons (by rfl) (fun K hK => ?_) allT_nil)
      have hfc := hid (hfi.out wc BB.out)
      have hbs := hid BB.out.size
      go_simp
      go_at_call 41
      refine hfc.out.mono ?_
      rintro ee wn ⟨ra, rc, ta, tc, tb2, td, rfl, T9, bn⟩
      have BB := hid (BB.out.trans (bn.mono BB.out.size))
      have TF := hid (T9.mono (S' := fun q => (q < w.heap.size) ∨ wc.heap.size ≤ q) fun q _ hq => hq.elim (fun h => .inl h.2.1) .inr)
      (try have XI := hid ((bn.block _ (Array.getElem?_eq_some_iff.1 XI.out).1).trans XI.out))
      have bz := hid bn.size
      clear bn T9 hfc hfi
      (try dsimp only)
      have TG := hid (show TbS (fun q => q < w.heap.size ∨ wc.heap.size ≤ q) wn ((findT tbs nm).getD noTb) ra rc ta tc tb2 td from TF.out)
      clear TF
      first
        | (have TF := hid (TG.out.mono (S' := fun q => q ≠ pI) fun q _ hq => hq.elim (fun h => by have := hpI.out; omega) fun h => by have := hpI2.out; omega)
           clear TG)
        | (have TF := TG
           clear TG)
      clear hbs bz
      obtain ⟨wc, rfl⟩ : ∃ W, W = wn := ⟨_, rfl⟩
      refine hK.out _ _ (by (exact BB.out)) (fun hHeld3 => ?_)
      clear hK K
      (try simp only [Act.put, sA, sB, sC])
      refine tt_take (i := 7) (v := _) (by rfl) (by decide +kernel) (by exact fun _ _ _ h => h) (Or.inl ⟨by rfl, by (intro W hSw; (try dsimp only at hSw); go_simp <;> with_reducible rfl)⟩) (by assumption) ?_
      (try simp only [Act.put, sA, sB, sC])
      refine tt_take (i := 8) (v := _) (by rfl) (by decide +kernel) (by exact fun _ _ _ h => h) (Or.inl ⟨by rfl, by (intro W hSw; (try dsimp only at hSw); go_simp <;> with_reducible rfl)⟩) (by assumption) ?_
      (try simp only [Act.put, sA, sB, sC])
      refine tt_take (i := 9) (v := _) (by rfl) (by decide +kernel) (by exact fun _ _ _ h => h) (Or.inl ⟨by rfl, by (intro W hSw; (try dsimp only at hSw); go_simp <;> with_reducible rfl)⟩) (by assumption) ?_
      (try simp only [Act.put, sA, sB, sC])
      refine tt_ready (rs := [11]) (by decide +kernel) (allT_cons (by rfl) (fun K hK => ?_) allT_nil)
      have F8 := hid (find8 (w0 := w0) XI.out TF.out BB.out hpI0.out)
      have z0 := cell_p XI.out 0
      have z1 := cell_p XI.out 1
      have z2 := cell_p XI.out 2
      have z3 := cell_p XI.out 3
      have z4 := cell_p XI.out 4
      have z5 := cell_p XI.out 5
      have z6 := cell_p XI.out 6
      have z7 := cell_p XI.out 7
      have f0 := frz_p XI.out 0
      have f1 := frz_p XI.out 1
      have f2 := frz_p XI.out 2
      have f3 := frz_p XI.out 3
      have f4 := frz_p XI.out 4
      have f5 := frz_p XI.out 5
      have f6 := frz_p XI.out 6
      have f7 := frz_p XI.out 7
      simp only [List.getElem?_toArray, List.getElem?_cons_succ, List.getElem?_cons_zero] at z0 z1 z2 z3 z4 z5 z6 z7
      go_simp
      refine hK.out _ _ (by (exact F8.out.b)) (fun hHeld4 => ?_)
      clear hK K
      (try simp only [Act.put, sA, sB, sC])
      refine tt_tail (by decide +kernel) ?_
      simp only [List.drop_succ_cons, List.drop_zero]
      clear z0 z1 z2 z3 z4 z5 z6 z7
      go_wp2
      go_meet
      case rel => exact ⟨pI, ra, rc, ta, tc, tb2, td, rfl, rfl, F8.out⟩
  case rest =>
    obtain ⟨p8, ra, rc, ta, tc, tb2, td, rfl, rfl, F8⟩ := hcut
    have hst := hid (show (findT tbs nm).isSome = true → smallT ((findT tbs nm).getD noTb) from fun h => findT_small HS.out h)
    have hv := hid (show (if (findT tbs nm).isSome = true then (applyT ((findT tbs nm).getD noTb) l, (0 : Int)) else (noVal, 5)) = z from by rw [← hzz.out]; exact (evalApp (x := ⟨12, nm, ⟨ng, nu, de⟩, args, so⟩) rfl).symm)
    generalize (findT tbs nm).getD noTb = t at *
    generalize (findT tbs nm).isSome = ok at *
    obtain ⟨tn, trs, ⟨ts, tb, ⟨tg, tnu, tde⟩, te⟩⟩ := t
    have XB := hid ((F8.b.block _ (Array.getElem?_eq_some_iff.1 X0.out).1).trans X0.out)
    have BA := hid (hB0.out.trans (F8.b.mono hB0.out.size))
    have X8 := hid F8.x
    have T8 := hid F8.t
    have HL9 := hid ((HL.out.below hB0.out (Nat.le_refl _)).below F8.b (Nat.le_refl _))
    clear F8 hfi hzz
    cases ok
    case false =>
      have hv2 := hid (show (noVal, (5 : Int)) = z from hv.out)
      have V9' := hid (show ValS (OldF S w wc) wc noVal none 0 none 0 from ⟨(show okI 0 from ⟨by decide, by decide⟩), (show okI 0 from ⟨by decide, by decide⟩), .nil _ _ _ _, ⟨Nat.le_refl _, Nat.zero_le _⟩, .nil _ _ _ _, ⟨Nat.le_refl _, Nat.zero_le _⟩⟩)
      have NE := hid (nodeEnd (v := noVal) (er := 5) XB.out (by omega) V9'.out BA.out [(0, .int .i64 0), (1, .bool false), (2, .bool false), (3, .slice none 0 0), (4, .slice none 0 0), (5, .int .i64 0)])
      have z0 := cell_p XB.out 0
      have z1 := cell_p XB.out 1
      have z2 := cell_p XB.out 2
      have z3 := cell_p XB.out 3
      have z4 := cell_p XB.out 4
      have z5 := cell_p XB.out 5
      have f0 := frz_p XB.out 0
      have f1 := frz_p XB.out 1
      have f2 := frz_p XB.out 2
      have f3 := frz_p XB.out 3
      have f4 := frz_p XB.out 4
      have f5 := frz_p XB.out 5
      simp only [List.getElem?_toArray, List.getElem?_cons_succ, List.getElem?_cons_zero] at z0 z1 z2 z3 z4 z5
      go_wp2
      refine bodyPost_ret (v := .tuple #[.agg #[.int .i64 0, .bool false, .bool false, .slice none 0 0, .slice none 0 0, .int .i64 0], .int .i64 5]) (by simp [results, Tryz.results90, go_sem, *]) rfl ?_
      rw [← hv2.out]
      exact NE.out
    case true =>
      have hv2 := hid (show (applyT ⟨tn, trs, ⟨ts, tb, ⟨tg, tnu, tde⟩, te⟩⟩ l, (0 : Int)) = z from hv.out)
      have hap := hid (mapply_any ⟨tn, trs, ⟨ts, tb, ⟨tg, tnu, tde⟩, te⟩⟩ ra rc ta tc tb2 td la ln lc l wc T8.out HL9.out (hst.out rfl) hn)
      obtain ⟨v, hv3⟩ : ∃ v, applyT ⟨tn, trs, ⟨ts, tb, ⟨tg, tnu, tde⟩, te⟩⟩ l = v := ⟨_, rfl⟩
      rw [hv3] at hap hv2
      obtain ⟨s8, b8, ⟨n8, u8, d8⟩, e8⟩ := v
      clear hv hv3
      have u0 := cell_p X8.out 0
      have u1 := cell_p X8.out 1
      have u2 := cell_p X8.out 2
      have u3 := cell_p X8.out 3
      have u4 := cell_p X8.out 4
      have u5 := cell_p X8.out 5
      have u6 := cell_p X8.out 6
      have u7 := cell_p X8.out 7
      simp only [List.getElem?_toArray, List.getElem?_cons_succ, List.getElem?_cons_zero] at u0 u1 u2 u3 u4 u5 u6 u7
      go_wp2_with fail
      refine hap.out.mono ?_
      rintro ee wC ⟨a9, c9, b9, d9, rfl, V9, hb9⟩
      have XC := hid ((hb9.block _ (Array.getElem?_eq_some_iff.1 XB.out).1).trans XB.out)
      have BC := hid (BA.out.trans (hb9.mono BA.out.size))
      have V9' := hid (V9.mono (S' := OldF S w wC) fun q _ hq => .inr ⟨hq.1, Nat.le_trans BA.out.size hq.2⟩)
      clear V9 hb9 hap u0 u1 u2 u3 u4 u5 u6 u7
      have NE := hid (nodeEnd (v := ⟨s8, b8, ⟨n8, u8, d8⟩, e8⟩) (er := 0) XC.out (by omega) V9'.out BC.out [(0, .int .i64 s8), (1, .bool b8), (2, .bool n8), (3, .slice a9 u8.length c9), (4, .slice b9 d8.length d9), (5, .int .i64 e8)])
      have z0 := cell_p XC.out 0
      have z1 := cell_p XC.out 1
      have z2 := cell_p XC.out 2
      have z3 := cell_p XC.out 3
      have z4 := cell_p XC.out 4
      have z5 := cell_p XC.out 5
      have f0 := frz_p XC.out 0
      have f1 := frz_p XC.out 1
      have f2 := frz_p XC.out 2
      have f3 := frz_p XC.out 3
      have f4 := frz_p XC.out 4
      have f5 := frz_p XC.out 5
      simp only [List.getElem?_toArray, List.getElem?_cons_succ, List.getElem?_cons_zero] at z0 z1 z2 z3 z4 z5
      go_wp2
      refine bodyPost_ret (v := .tuple #[.agg #[.int .i64 s8, .bool b8, .bool n8, .slice a9 u8.length c9, .slice b9 d8.length d9, .int .i64 e8], .int .i64 0]) (by simp [results, Tryz.results90, go_sem, *]) rfl ?_
      rw [← hv2.out]
      exact NE.out
theorem mnode_rest (p:Nat) (tbs:ModD) (ma:Option Addr) (mc:Nat) (x:NodeD) (a:Option Addr) (c:Nat) (b:Option Addr) (d:Nat) (g:Option Addr) (e:Nat) (la:Option Addr) (ln lc:Nat) (l:List ValD) (w:World)
  (hp:w.cell? ⟨p,1,none⟩=some (.slice ma tbs.length mc)) (hm:ModS S w tbs ma mc) (hsm:smallM tbs) (hx:NodeS S w x a c b d g e) (h:SlR repV S w la ln l) (hc:ln≤lc) (hn:ln≤1000000) (hs:∀v∈l,smallV v) (har:arOk x.op ln) (h1:¬(x.op=1∨x.op=2)) (h3:¬(x.op=3∨x.op=4∨x.op=5∨x.op=6∨x.op=7)) (h8:¬(x.op=8∨x.op=9)) (h17:¬(x.op=17∨x.op=18∨x.op=19∨x.op=20)) (h10:¬(x.op=10)) (h11:¬(x.op=11)) (h12:¬(x.op=12)) :
  Calls Tryz.prog 90 #[.pointer (some ⟨p,0,none⟩),nodeV x a c b d g e,.slice la ln lc] w fun e w'=>NodeP S (evalNode tbs x l) w e w':=by
 obtain ⟨z,hz⟩:∃z,evalNode tbs x l=z:=⟨_,rfl⟩
 have hzz:=hid hz
 rw [hz]
 obtain ⟨op,nm,⟨ng,nu,de⟩,args,so⟩:=x
 have HM:=hid hm
 have HS:=hid hsm
 have HX:=hid hx
 have HL:=hid h
 have hs':=hid hs
 have hl:=hid h.1
 have hr1:=hid har.1
 have hr2:=hid har.2
 dsimp only at *
 have Hh1:=hid h1
 have Hh3:=hid h3
 have Hh8:=hid h8
 have Hh17:=hid h17
 have Hh10:=hid h10
 have Hh11:=hid h11
 have Hh12:=hid h12
 clear h1 h3 h8 h17 h10 h11 h12
 clear hz hm hsm hx h hs har
 have X0:=hid (heap2b w (.cells #[.int .i64 op,.string nm,.bool ng,.slice a nu.length c,.slice b de.length d,.slice g args.length e,.int .i64 so] 38) (.cells #[.int .i64 0,.bool false,.bool false,.slice none 0 0,.slice none 0 0,.int .i64 0] 64))
 have x1:=heap2a w (.cells #[.int .i64 op,.string nm,.bool ng,.slice a nu.length c,.slice b de.length d,.slice g args.length e,.int .i64 so] 38) (.cells #[.int .i64 0,.bool false,.bool false,.slice none 0 0,.slice none 0 0,.int .i64 0] 64)
 have hB0:=hid (below2 w (.cells #[.int .i64 op,.string nm,.bool ng,.slice a nu.length c,.slice b de.length d,.slice g args.length e,.int .i64 so] 38) (.cells #[.int .i64 0,.bool false,.bool false,.slice none 0 0,.slice none 0 0,.int .i64 0] 64))
 generalize hw0:(w.alloc (.cells #[.int .i64 op,.string nm,.bool ng,.slice a nu.length c,.slice b de.length d,.slice g args.length e,.int .i64 so] 38)).alloc (.cells #[.int .i64 0,.bool false,.bool false,.slice none 0 0,.slice none 0 0,.int .i64 0] 64)=w0 at *
 have q0:w0.cell? ⟨w.heap.size,0,none⟩=some (.int .i64 op):=cell_p x1 0
 have q1:w0.cell? ⟨w.heap.size,1,none⟩=some (.string nm):=cell_p x1 1
 have q2:w0.cell? ⟨w.heap.size,2,none⟩=some (.bool ng):=cell_p x1 2
 have q3:w0.cell? ⟨w.heap.size,3,none⟩=some (.slice a nu.length c):=cell_p x1 3
 have q4:w0.cell? ⟨w.heap.size,4,none⟩=some (.slice b de.length d):=cell_p x1 4
 have qp:=keep_cell hB0.out hp
 clear x1
 go_enter Tryz.func90,Tryz.ntmps90
 go_upto_region 1 with fail
 clear hw0 hp
 have h1:=Hh1.out
 clear Hh1
 have h3:=Hh3.out
 clear Hh3
 have h8:=Hh8.out
 clear Hh8
 have h17:=Hh17.out
 clear Hh17
 have h10:=Hh10.out
 clear Hh10
 have h11:=Hh11.out
 clear Hh11
 have h12:=Hh12.out
 clear Hh12
 have hm1:=hid h1
 have hz0:=hid (show((⟨1,false,(countV op l).1,0⟩:ValD),(countV op l).2)=z from by rw [←hzz.out];exact((if_neg h1).trans ((if_neg h3).trans ((if_neg h8).trans ((if_neg h17).trans ((if_neg h10).trans ((if_neg h11).trans (if_neg h12))))))).symm)
 have hco:=hid (mcount_any op la ln lc l w0 ((HL.out.mono (S':=fun q=>q<w.heap.size∧S q) fun q hq hS=>⟨hq,hS⟩).below hB0.out (Nat.le_refl _)) (by have:=hr1.out;omega) hc hn hs'.out)
 obtain ⟨R,hR⟩:∃R,countV op l=R:=⟨_,rfl⟩
 rw [hR] at hco hz0
 obtain ⟨⟨R1,R2,R3⟩,er⟩:=R
 dsimp only at *
 have h1b:(op == 1)=false:=by simp;omega
 have h1d:decide (op=1)=false:=decide_eq_false (by omega)
 have h2b:(op == 2)=false:=by simp;omega
 have h2d:decide (op=2)=false:=decide_eq_false (by omega)
 have h3b:(op == 3)=false:=by simp;omega
 have h3d:decide (op=3)=false:=decide_eq_false (by omega)
 have h4b:(op == 4)=false:=by simp;omega
 have h4d:decide (op=4)=false:=decide_eq_false (by omega)
 have h5b:(op == 5)=false:=by simp;omega
 have h5d:decide (op=5)=false:=decide_eq_false (by omega)
 have h6b:(op == 6)=false:=by simp;omega
 have h6d:decide (op=6)=false:=decide_eq_false (by omega)
 have h7b:(op == 7)=false:=by simp;omega
 have h7d:decide (op=7)=false:=decide_eq_false (by omega)
 have h8b:(op == 8)=false:=by simp;omega
 have h8d:decide (op=8)=false:=decide_eq_false (by omega)
 have h9b:(op == 9)=false:=by simp;omega
 have h9d:decide (op=9)=false:=decide_eq_false (by omega)
 have h10b:(op == 10)=false:=by simp;omega
 have h10d:decide (op=10)=false:=decide_eq_false (by omega)
 have h11b:(op == 11)=false:=by simp;omega
 have h11d:decide (op=11)=false:=decide_eq_false (by omega)
 have h12b:(op == 12)=false:=by simp;omega
 have h12d:decide (op=12)=false:=decide_eq_false (by omega)
 have h17b:(op == 17)=false:=by simp;omega
 have h17d:decide (op=17)=false:=decide_eq_false (by omega)
 have h18b:(op == 18)=false:=by simp;omega
 have h18d:decide (op=18)=false:=decide_eq_false (by omega)
 have h19b:(op == 19)=false:=by simp;omega
 have h19d:decide (op=19)=false:=decide_eq_false (by omega)
 have h20b:(op == 20)=false:=by simp;omega
 have h20d:decide (op=20)=false:=decide_eq_false (by omega)
 clear h1 h3 h8 h17 h10 h11 h12 hr1 hr2 hm1 hzz hR
 go_wp2_with fail
 refine hco.out.mono ?_
 rintro ee w9 ⟨a9,c9,b9,d9,rfl,V9,hb9⟩
 have X9:=hid ((hb9.block _ (Array.getElem?_eq_some_iff.1 X0.out).1).trans X0.out)
 have B9:=hid (hB0.out.trans (hb9.mono hB0.out.size))
 have bA:=hid ((Below.refl w9.heap.size w9).alloc (Nat.le_refl _) (.cells #[.bool R1,.slice a9 R2.length c9,.slice b9 R3.length d9] 36))
 have XA:=hid (heap_alloc_new w9 (.cells #[.bool R1,.slice a9 R2.length c9,.slice b9 R3.length d9] 36))
 have VO:=V9.mono (S':=OldF S w w9) fun q _ hq=>hq.elim (fun h=>.inl h.2) fun h=>.inr ⟨h.1,Nat.le_trans hB0.out.size h.2⟩
 have VA:=hid (ValS.moveBelow (S:=S) (w:=w) (W:=w9) (v:=⟨1,false,⟨R1,R2,R3⟩,0⟩) ⟨(show okI 1 from⟨by decide,by decide⟩),(show okI 0 from⟨by decide,by decide⟩),VO.num,VO.nc,VO.den,VO.dc⟩ bA.out)
 clear V9 hb9 VO hco
 go_upto_region 31 with fail
 generalize (w9.alloc (.cells #[.bool R1,.slice a9 R2.length c9,.slice b9 R3.length d9] 36))=wA at *
 have XB:=hid ((bA.out.block _ (Array.getElem?_eq_some_iff.1 X9.out).1).trans X9.out)
 have BA:=hid (B9.out.trans (bA.out.mono B9.out.size))
 have u0:=cell_p XA.out 0
 have u1:=cell_p XA.out 1
 have u2:=cell_p XA.out 2
 simp only [List.getElem?_toArray,List.getElem?_cons_succ,List.getElem?_cons_zero] at u0 u1 u2
 have NE:=hid (nodeEnd (v:=⟨1,false,⟨R1,R2,R3⟩,0⟩) (er:=er) XB.out (by omega) VA.out BA.out [(0,.int .i64 1),(1,.bool false),(2,.bool R1),(3,.slice a9 R2.length c9),(4,.slice b9 R3.length d9),(5,.int .i64 0)])
 have z0:=cell_p XB.out 0
 have z1:=cell_p XB.out 1
 have z2:=cell_p XB.out 2
 have z3:=cell_p XB.out 3
 have z4:=cell_p XB.out 4
 have z5:=cell_p XB.out 5
 have f0:=frz_p XB.out 0
 have f1:=frz_p XB.out 1
 have f2:=frz_p XB.out 2
 have f3:=frz_p XB.out 3
 have f4:=frz_p XB.out 4
 have f5:=frz_p XB.out 5
 simp only [List.getElem?_toArray,List.getElem?_cons_succ,List.getElem?_cons_zero] at z0 z1 z2 z3 z4 z5
 go_wp2
 refine bodyPost_ret (v:=.tuple #[.agg #[.int .i64 1,.bool false,.bool R1,.slice a9 R2.length c9,.slice b9 R3.length d9,.int .i64 0],.int .i64 er]) (by simp [results,Tryz.results90,go_sem, *]) rfl ?_
 rw [←hz0.out]
 exact NE.out
theorem mnode_any (p:Nat) (tbs:ModD) (ma:Option Addr) (mc:Nat) (x:NodeD) (a:Option Addr) (c:Nat) (b:Option Addr) (d:Nat) (g:Option Addr) (e:Nat) (la:Option Addr) (ln lc:Nat) (l:List ValD) (w:World)
  (hp:w.cell? ⟨p,1,none⟩=some (.slice ma tbs.length mc)) (hm:ModS S w tbs ma mc) (hsm:smallM tbs) (hx:NodeS S w x a c b d g e) (h:SlR repV S w la ln l) (hc:ln≤lc) (hn:ln≤1000000) (hs:∀v∈l,smallV v) (har:arOk x.op ln) :
  Calls Tryz.prog 90 #[.pointer (some ⟨p,0,none⟩),nodeV x a c b d g e,.slice la ln lc] w fun e w'=>NodeP S (evalNode tbs x l) w e w':=by
 by_cases h1:x.op=1∨x.op=2
 ·exact mnode_h1 p tbs ma mc x a c b d g e la ln lc l w hp hm hsm hx h hc hn hs har h1
 by_cases h3:x.op=3∨x.op=4∨x.op=5∨x.op=6∨x.op=7
 ·exact mnode_h3 p tbs ma mc x a c b d g e la ln lc l w hp hm hsm hx h hc hn hs har h1 h3
 by_cases h8:x.op=8∨x.op=9
 ·exact mnode_h8 p tbs ma mc x a c b d g e la ln lc l w hp hm hsm hx h hc hn hs har h1 h3 h8
 by_cases h17:x.op=17∨x.op=18∨x.op=19∨x.op=20
 ·exact mnode_h17 p tbs ma mc x a c b d g e la ln lc l w hp hm hsm hx h hc hn hs har h1 h3 h8 h17
 by_cases h10:x.op=10
 ·exact mnode_h10 p tbs ma mc x a c b d g e la ln lc l w hp hm hsm hx h hc hn hs har h1 h3 h8 h17 h10
 by_cases h11:x.op=11
 ·exact mnode_h11 p tbs ma mc x a c b d g e la ln lc l w hp hm hsm hx h hc hn hs har h1 h3 h8 h17 h10 h11
 by_cases h12:x.op=12
 ·exact mnode_h12 p tbs ma mc x a c b d g e la ln lc l w hp hm hsm hx h hc hn hs har h1 h3 h8 h17 h10 h11 h12
 exact mnode_rest p tbs ma mc x a c b d g e la ln lc l w hp hm hsm hx h hc hn hs har h1 h3 h8 h17 h10 h11 h12
end
theorem app_args (w:World) (nm:ByteArray) (hn:nm.size≤1000000):MArgs w nm noRat [] 12 none none none 0 0 0:=
 ⟨SlR.nil _ _ _ _,SlR.nil _ _ _ _,SlR.nil _ _ _ _,⟨Nat.le_refl _,Nat.zero_le _⟩,⟨Nat.le_refl _,Nat.zero_le _⟩,⟨Nat.le_refl _,Nat.zero_le _⟩,by decide,hn,⟨by decide,by decide⟩,fun e=>by cases e⟩
variable {X : Nat → Prop} {B p : Nat} {T : TabD} {w w' W : World} {v1 v2 v3 v' : Value}
structure RefX (X:Nat→Prop) (B p:Nat) (T:TabD) (w:World):Prop where
 bp:B≤p
 xlt:∀k,X k→k<w.heap.size
 blk:∃v1 v2 v3,w.heap[p]? = some (.cells #[v1,v2,v3] 107 (0,0))∧OwnR Rep.str (fun _=>False) w B 9 v1 T.sorts∧OwnR repF (IntX X w) w B 114 v2 T.funs∧OwnR repM (fun _=>False) w B 329 v3 T.marks
theorem RefX.plt (h:RefX X B p T w):p<w.heap.size:=by obtain ⟨v1,v2,v3,hb,_⟩:=h.blk;exact(Array.getElem?_eq_some_iff.1 hb).1
theorem RefX.ownB (h:RefX X B p T w) {k:Nat} (hk:ownOf w p k):B≤k∧k<w.heap.size:=by
 obtain ⟨v1,v2,v3,hb,h1,h2,h3⟩:=h.blk
 rcases (own3 hb).1 hk with rfl | hk | hk | hk
 ·exact⟨h.bp,h.plt⟩
 ·exact h1.lt k hk
 ·exact h2.lt k hk
 ·exact h3.lt k hk
theorem RefX.ownI (h:RefX X B p T w) {k:Nat} (hk:ownOf w p k):¬IntX X w k:=fun hi=>by
 obtain ⟨v1,v2,v3,hb,h1,h2,h3⟩:=h.blk
 rcases (own3 hb).1 hk with rfl | hk | hk | hk
 ·exact ty_ne (by decide) ⟨_,_,hb⟩ hi.2
 ·exact ty_ne (by decide) (h1.ty k hk) hi.2
 ·exact ty_ne (by decide) (h2.ty k hk) hi.2
 ·exact ty_ne (by decide) (h3.ty k hk) hi.2
theorem RefX.keep (h:RefX X B p T w) (hk:∀k,ownOf w p k→w'.heap[k]? = w.heap[k]?) (hi:∀k,IntX X w k→w'.heap[k]? = w.heap[k]?) (hs:w.heap.size≤w'.heap.size):RefX X B p T w':=by
 obtain ⟨v1,v2,v3,hb,h1,h2,h3⟩:=h.blk
 refine⟨h.bp,fun k hx=>Nat.lt_of_lt_of_le (h.xlt k hx) hs,v1,v2,v3,(hk p (.inl rfl)).trans hb,h1.keep (fun _ _ h=>h.elim) (fun k e=>hk k ((own3 hb).2 (.inr (.inl e)))) hs,h2.keepI hi (fun k e=>hk k ((own3 hb).2 (.inr (.inr (.inl e))))) hs,h3.keep (fun _ _ h=>h.elim) (fun k e=>hk k ((own3 hb).2 (.inr (.inr (.inr e))))) hs⟩
theorem RefX.all (h:RefX X B p T w) (hb:Below w.heap.size w w'):RefX X B p T w':=h.keep (fun k hk=>hb.block k (h.ownB hk).2) (fun k hk=>hb.block k hk.lt) hb.size
theorem RefX.stepBelow (h:RefX X B p T w) (hs:PStep p w w'):Below B w w':=hs.below (Nat.le_trans h.bp (Nat.le_of_lt h.plt)) fun _ hk=>(h.ownB hk).1
theorem RefX.setSorts (h:RefX X B p T w) (hb:w.heap[p]? = some (.cells #[v1,v2,v3] 107 (0,0))) (hg:w.grownBy W v1.ownBlock) (hloc:v'.ownBlock=v1.ownBlock∨∀k,v'.ownBlock=some k→w.heap.size≤k) {l:List ByteArray} (ho:OwnR Rep.str (fun _=>False) W B 9 v' l) :
  RefX X B p { T with sorts:=l } (W.setCell ⟨p,0,none⟩ v')∧PStep p w (W.setCell ⟨p,0,none⟩ v'):=by
 obtain ⟨u1,u2,u3,hb',h1,h2,h3⟩:=h.blk
 rw [hb] at hb'
 cases hb'
 have hp1:v1.ownBlock≠some p:=fun e=>ty_ne (by decide) (h1.ty p e) ⟨_,_,hb⟩
 have hp2:v2.ownBlock≠some p:=fun e=>ty_ne (by decide) (h2.ty p e) ⟨_,_,hb⟩
 have hp3:v3.ownBlock≠some p:=fun e=>ty_ne (by decide) (h3.ty p e) ⟨_,_,hb⟩
 obtain ⟨s1,s2,s3⟩:=setField (v':=v') hb (i:=0) rfl hg hp1 hloc
 have hpW:W.heap[p]? = w.heap[p]?:=hg.block p h.plt (Ne.symm hp1)
 have hp':v'.ownBlock≠some p:=fun e=>ty_ne (by decide) (ho.ty p e) ⟨_,_,hpW.trans hb⟩
 have hsz:(W.setCell ⟨p,0,none⟩ v').heap.size=W.heap.size:=by simp [World.setCell]
 refine⟨⟨h.bp,fun k hx=>Nat.lt_of_lt_of_le (h.xlt k hx) (Nat.le_trans hg.size (Nat.le_of_eq hsz.symm)),v',v2,v3,s2,ho.keep (fun _ _ h=>h.elim) (fun k hk=>s3 k fun e=>hp' (by rw [←e];exact hk)) (Nat.le_of_eq hsz.symm),h2.keepI (fun k hk=>?_) (fun k hk=>?_) (by rw [hsz];exact hg.size),h3.keep (fun _ _ h=>h.elim) (fun k hk=>?_) (by rw [hsz];exact hg.size)⟩,s1⟩
 ·rw [s3 k fun e=>by subst e;exact ty_ne (by decide) ⟨_,_,hb⟩ hk.2]
  exact hg.block k hk.lt fun e=>ty_ne (by decide) (h1.ty k e.symm) hk.2
 ·rw [s3 k fun e=>hp2 (by rw [←e];exact hk)]
  exact hg.block k (h2.lt k hk).2 fun e=>own_ty_ne h2 h1 (by decide) hk e.symm
 ·rw [s3 k fun e=>hp3 (by rw [←e];exact hk)]
  exact hg.block k (h3.lt k hk).2 fun e=>own_ty_ne h3 h1 (by decide) hk e.symm
theorem RefX.setFuns (h:RefX X B p T w) (hb:w.heap[p]? = some (.cells #[v1,v2,v3] 107 (0,0))) (hg:w.grownBy W v2.ownBlock) (hloc:v'.ownBlock=v2.ownBlock∨∀k,v'.ownBlock=some k→w.heap.size≤k) {l:List FunD} (ho:OwnR repF (IntX X W) W B 114 v' l) :
  RefX X B p { T with funs:=l } (W.setCell ⟨p,1,none⟩ v')∧PStep p w (W.setCell ⟨p,1,none⟩ v'):=by
 obtain ⟨u1,u2,u3,hb',h1,h2,h3⟩:=h.blk
 rw [hb] at hb'
 cases hb'
 have hp1:v1.ownBlock≠some p:=fun e=>ty_ne (by decide) (h1.ty p e) ⟨_,_,hb⟩
 have hp2:v2.ownBlock≠some p:=fun e=>ty_ne (by decide) (h2.ty p e) ⟨_,_,hb⟩
 have hp3:v3.ownBlock≠some p:=fun e=>ty_ne (by decide) (h3.ty p e) ⟨_,_,hb⟩
 obtain ⟨s1,s2,s3⟩:=setField (v':=v') hb (i:=1) rfl hg hp2 hloc
 have hpW:W.heap[p]? = w.heap[p]?:=hg.block p h.plt (Ne.symm hp2)
 have hp':v'.ownBlock≠some p:=fun e=>ty_ne (by decide) (ho.ty p e) ⟨_,_,hpW.trans hb⟩
 have hsz:(W.setCell ⟨p,1,none⟩ v').heap.size=W.heap.size:=by simp [World.setCell]
 refine⟨⟨h.bp,fun k hx=>Nat.lt_of_lt_of_le (h.xlt k hx) (Nat.le_trans hg.size (Nat.le_of_eq hsz.symm)),v1,v',v3,s2,h1.keep (fun _ _ h=>h.elim) (fun k hk=>?_) (by rw [hsz];exact hg.size),ho.keepI (fun k hk=>s3 k fun e=>?_) (fun k hk=>s3 k fun e=>hp' (by rw [←e];exact hk)) (Nat.le_of_eq hsz.symm),h3.keep (fun _ _ h=>h.elim) (fun k hk=>?_) (by rw [hsz];exact hg.size)⟩,s1⟩
 ·rw [s3 k fun e=>hp1 (by rw [←e];exact hk)]
  exact hg.block k (h1.lt k hk).2 fun e=>own_ty_ne h1 h2 (by decide) hk e.symm
 ·subst e;exact ty_ne (by decide) ⟨_,_,hpW.trans hb⟩ hk.2
 ·rw [s3 k fun e=>hp3 (by rw [←e];exact hk)]
  exact hg.block k (h3.lt k hk).2 fun e=>own_ty_ne h3 h2 (by decide) hk e.symm
theorem RefX.look {B p:Nat} {T:TabD} {w:World} (h:RefX X B p T w):∃a1 c1 a2 c2 a3 c3,w.heap[p]? = some (.cells #[.slice a1 T.sorts.length c1,.slice a2 T.funs.length c2,.slice a3 T.marks.length c3] 107 (0,0)) ∧
  OwnR Rep.str (fun _=>False) w B 9 (.slice a1 T.sorts.length c1) T.sorts∧OwnR repF (IntX X w) w B 114 (.slice a2 T.funs.length c2) T.funs∧OwnR repM (fun _=>False) w B 329 (.slice a3 T.marks.length c3) T.marks:=by
 obtain ⟨v1,v2,v3,hb,h1,h2,h3⟩:=h.blk
 obtain ⟨a1,c1,rfl,_⟩:=h1.slice
 obtain ⟨a2,c2,rfl,_⟩:=h2.slice
 obtain ⟨a3,c3,rfl,_⟩:=h3.slice
 exact⟨a1,c1,a2,c2,a3,c3,hb,h1,h2,h3⟩
end Go.Proofs.YtgoojkiccdjplaaGreatDoor
