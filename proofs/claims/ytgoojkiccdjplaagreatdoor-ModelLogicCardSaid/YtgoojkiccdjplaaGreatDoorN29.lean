/-
  Parts of this claim's texts, one behind the other: FR. No condition.
-/
import Derived.Test.YtgoojkiccdjplaaGreatDoorN24
import Derived.Test.YtgoojkiccdjplaaGreatDoorN28
set_option linter.unusedVariables false
set_option linter.unusedSimpArgs false
set_option maxRecDepth 100000
set_option maxHeartbeats 16000000
namespace Go.Proofs.YtgoojkiccdjplaaGreatDoor
open Go.RowKit Go.Sort Go.Lib
structure KeepM (w0:World) (dm:Nat) (w:World):Prop where
 size:w0.heap.size≤w.heap.size
 block:∀q,q<w0.heap.size→q≠dm→w.heap[q]? = w0.heap[q]?
section
variable {S : Nat → Prop} {w w0 W W' wr : World} {dm k : Nat} {F : Int → Option ValD} {T : TermD} {tbs : ModD}
theorem KeepM.refl (w0:World) (dm:Nat):KeepM w0 dm w0:=⟨Nat.le_refl _,fun _ _ _=>rfl⟩
theorem KeepM.below (h:KeepM w0 dm W) (hb:Below W.heap.size W W'):KeepM w0 dm W':=⟨Nat.le_trans h.size hb.size,fun q hq e=>(hb.block q (Nat.lt_of_lt_of_le hq h.size)).trans (h.block q hq e)⟩
theorem KeepM.turned (h:KeepM w0 dm W) (ht:W.mapTurned W' dm):KeepM w0 dm W':=⟨Nat.le_trans h.size ht.grown.size,fun q hq e=>(ht.grown.block q (Nat.lt_of_lt_of_le hq h.size) fun z=>e (by injection z)).trans (h.block q hq e)⟩
theorem KeepM.at (h:KeepM w0 dm W) {q:Nat} {o:Obj} (hq:w0.heap[q]? = some o) (hd:q≠dm):W.heap[q]? = some o:=(h.block q (Array.getElem?_eq_some_iff.1 hq).1 hd).trans hq
theorem evalL_at {l:List Int} (hk:k<l.length):evalL tbs T (l.drop k) F=if (evalNode tbs (nodeAt T (nth l k)) (argV F (nodeAt T (nth l k)).args)).2=0 then evalL tbs T (l.drop (k+1)) (updV F (nth l k) (evalNode tbs (nodeAt T (nth l k)) (argV F (nodeAt T (nth l k)).args)).1) else(F,(evalNode tbs (nodeAt T (nth l k)) (argV F (nodeAt T (nth l k)).args)).2):=by
 rw [List.drop_eq_getElem_cons hk,←nth_eq hk];rfl
theorem argV_succ {args:List Int} {j:Nat} (h:j<args.length):argV F (args.take (j+1))=argV F (args.take j) ++ [(F (nth args j)).getD noVal]:=by
 unfold argV
 rw [List.take_succ_eq_append_getElem h,List.map_append,nth_eq h];rfl
theorem argV_len (F:Int→Option ValD) (l:List Int):(argV F l).length=l.length:=List.length_map _
theorem EvS.small (h:EvS S w dm F k W) (x:Int):smallV ((F x).getD noVal):=by
 obtain ⟨c,G,h1,h2,h3⟩:=h.mp
 rcases h3 x with ⟨e1,_⟩ | ⟨v,a,c,b,d,e1,_,_,e4⟩
 ·rw [e1];exact smallV_no
 ·rw [e1];exact e4
theorem EvS.smallL (h:EvS S w dm F k W) (l:List Int):∀v∈argV F l,smallV v:=fun v hv=>by
 obtain ⟨x,_,rfl⟩:=List.mem_map.1 hv
 exact h.small x
end
theorem EvS.look2 {S:Nat→Prop} {w W W':World} {dm k:Nat} {F:Int→Option ValD} (h:EvS S w dm F k W) (hb:Below W.heap.size W W') {x:Int} (hx:okI x):∃a c b d,(Instr.lookup 149 (.map (some dm)) (.int .i64 x) false).run Tryz.prog W' = .ok (valV ((F x).getD noVal) a c b d) W'∧ValS (fun q=>Ev S w dm q∧q<W.heap.size) W' ((F x).getD noVal) a c b d:=by
 obtain ⟨c,G,h1,h2,h3⟩:=h.mp
 have hl:=(h2.same (hb.block _ h2.lt)).look Tryz.underlying3 Tryz.underlying149 (zero_val W') hx
 rcases h3 x with ⟨e1,e2⟩ | ⟨v,a,c,b,d,e1,e2,e3,e4⟩
 ·rw [e2] at hl
  rw [e1]
  exact⟨none,0,none,0,hl,⟨⟨by decide,by decide⟩,⟨by decide,by decide⟩,.nil _ _ _ _,⟨Nat.le_refl _,Nat.zero_le _⟩,.nil _ _ _ _,⟨Nat.le_refl _,Nat.zero_le _⟩⟩⟩
 ·rw [e2] at hl
  rw [e1]
  exact⟨a,c,b,d,hl,(e3.mono fun q hq hE=>⟨hE,hq⟩).below hb (Nat.le_refl _)⟩
structure NodeB (wr w7:World) (x:NodeD) (a:Option Addr) (c:Nat) (b:Option Addr) (d:Nat) (g:Option Addr) (h:Nat) (w8:World):Prop where
 hx:w8.heap[w7.heap.size]? = some (.cells #[.int .i64 x.op,.string x.name,.bool x.val.neg,.slice a x.val.num.length c,.slice b x.val.den.length d,.slice g x.args.length h,.int .i64 x.sort] 38 (0,0))
 n:NodeS (DatF wr.heap.size w8) w8 x a c b d g h
 b:Below wr.heap.size wr w8
 s:w8.heap.size=w7.heap.size+1
theorem nodeB {wr w7:World} {x:NodeD} {a:Option Addr} {c:Nat} {b:Option Addr} {d:Nat} {g:Option Addr} {h:Nat} (N:NodeS (DatF wr.heap.size w7) w7 x a c b d g h) (hb:Below wr.heap.size wr w7) :
  NodeB wr w7 x a c b d g h (w7.alloc (.cells #[.int .i64 x.op,.string x.name,.bool x.val.neg,.slice a x.val.num.length c,.slice b x.val.den.length d,.slice g x.args.length h,.int .i64 x.sort] 38)):=by
 have b8:Below w7.heap.size w7 (w7.alloc (.cells #[.int .i64 x.op,.string x.name,.bool x.val.neg,.slice a x.val.num.length c,.slice b x.val.den.length d,.slice g x.args.length h,.int .i64 x.sort] 38)):=(Below.refl _ _).alloc (Nat.le_refl _) _
 exact⟨heap_alloc_new w7 _,N.move (Below.dat b8) b8.size,hb.trans (b8.mono hb.size),by simp⟩
theorem noVal_S {S:Nat→Prop} {w:World}:ValS S w noVal none 0 none 0:=⟨⟨by decide,by decide⟩,⟨by decide,by decide⟩,.nil _ _ _ _,⟨Nat.le_refl _,Nat.zero_le _⟩,.nil _ _ _ _,⟨Nat.le_refl _,Nat.zero_le _⟩⟩
theorem evEnd {v:ValD} {er:Int} {w W:World} {p:Nat} {cs:Array Value} {a b:Option Addr} {c d:Nat} (hp:W.heap[p]? = some (.cells cs 64 (0,0))) (hwp:w.heap.size≤p) (h:ValS (DatF w.heap.size W) W v a c b d) (hb:Below w.heap.size w W) (l:List (Nat × Value)):EvP (v,er) w (.returned (.tuple #[valV v a c b d,.int .i64 er])) (setL p l W):=
 ⟨a,c,b,d,rfl,h.setL (by decide) (by decide) hp l,(setL_dat (by decide) (by decide) l W cs hp).2.2 _ _ hwp hb⟩
def zV:List Value:=[.int .i64 0,.bool false,.bool false,.slice none 0 0,.slice none 0 0,.int .i64 0]
theorem meval_any {S:Nat→Prop} (B p:Nat) (T:TermD) (tbs:ModD) (ma:Option Addr) (mc:Nat) (i:Int) (w:World) (hT:TermX B p T w) (hG:TermG T) (hA:ArT T) (h:ModS S w tbs ma mc) (hm:smallM tbs) (hi:okI i) :
  Calls Tryz.prog 35 #[.pointer (some ⟨p,0,none⟩),.agg #[.slice ma tbs.length mc],.int .i64 i] w fun e w'=>EvP (evalT tbs T i) w e w':=by
 have hmm:=@run_makeMap Tryz.prog
 obtain ⟨R,hR⟩:∃R,evalT tbs T i=R:=⟨_,rfl⟩
 have hRe:=hid hR
 rw [hR]
 clear hR
 have HT:=hid hT
 have HG:=hid hG
 have HA:=hid hA
 have HM:=hid h
 have HS:=hid hm
 have HI:=hid hi
 have X0:=hid (heap2b w (.cells #[.slice ma tbs.length mc] 71) (.cells zV.toArray 64))
 have XM:=hid (heap2a w (.cells #[.slice ma tbs.length mc] 71) (.cells zV.toArray 64))
 have hB0:=hid (below2 w (.cells #[.slice ma tbs.length mc] 71) (.cells zV.toArray 64))
 have hsz0:=hid (show((w.alloc (.cells #[.slice ma tbs.length mc] 71)).alloc (.cells zV.toArray 64)).heap.size=w.heap.size+2 from by simp)
 have hsrt:=hid (tsort_any B p T i _ (hT.all hB0.out))
 clear hT hG hA h hm hi
 unfold zV at X0 XM hB0 hsz0 hsrt
 cases hh:hasT T i
 case false=>
  have hso:sortOf T i=(0,false):=by unfold sortOf;rw [hh];rfl
  have hR2:=hid (show(noVal,(1:Int))=R from by rw [←hRe.out];unfold evalT;rw [hh];rfl)
  rw [hso] at hsrt
  clear hso hh
  go_enter Tryz.func35,Tryz.ntmps35
  go_wp2_with fail
  generalize (w.alloc (.cells #[.slice ma tbs.length mc] 71)).alloc (.cells [.int .i64 0,.bool false,.bool false,.slice none 0 0,.slice none 0 0,.int .i64 0].toArray 64)=w0 at *
  refine hsrt.out.mono ?_;rintro e w' ⟨rfl,rfl⟩
  clear hsrt
  have z0:=cell_p X0.out 0
  have z1:=cell_p X0.out 1
  have z2:=cell_p X0.out 2
  have z3:=cell_p X0.out 3
  have z4:=cell_p X0.out 4
  have z5:=cell_p X0.out 5
  have f0:=frz_p X0.out 0
  have f1:=frz_p X0.out 1
  have f2:=frz_p X0.out 2
  have f3:=frz_p X0.out 3
  have f4:=frz_p X0.out 4
  have f5:=frz_p X0.out 5
  simp only [List.getElem?_toArray,List.getElem?_cons_succ,List.getElem?_cons_zero] at z0 z1 z2 z3 z4 z5
  go_wp2
  refine bodyPost_ret (v:=.tuple #[valV noVal none 0 none 0,.int .i64 1]) (by simp [results,Tryz.results35,go_sem,noVal,noRat, *]) rfl ?_
  rw [←hR2.out]
  exact evEnd X0.out (by omega) noVal_S hB0.out [(0,.int .i64 0),(1,.bool false),(2,.bool false),(3,.slice none 0 0),(4,.slice none 0 0),(5,.int .i64 0)]
 case true=>
  have hso:sortOf T i=((nodeAt T i).sort,true):=by unfold sortOf;rw [hh];rfl
  have hR2:=hid (show evalOut (evalL tbs T (walkT T [i]).2 fun _=>none) i=R from by rw [←hRe.out];unfold evalT;rw [hh];rfl)
  rw [hso] at hsrt
  dsimp only at hsrt
  have hh':=hid hh
  clear hso hh
  generalize (nodeAt T i).sort=so at *
  go_enter Tryz.func35,Tryz.ntmps35
  go_wp2_with fail
  generalize (w.alloc (.cells #[.slice ma tbs.length mc] 71)).alloc (.cells [.int .i64 0,.bool false,.bool false,.slice none 0 0,.slice none 0 0,.int .i64 0].toArray 64)=w0 at *
  have q1:w0.cell? ⟨w.heap.size,0,none⟩=some (.slice ma tbs.length mc):=cell_p XM.out 0
  have b5:=hid (below3 w0 (.map #[] 0) (.cells #[.pointer (some ⟨p,0,none⟩),.slice ma tbs.length mc,.map (some w0.heap.size)] 151) (.cells #[.int .i64 i] 3))
  have m5:=hid ((MapV.made (P:=Tryz.prog) (k:=3) w0).same (w':=((w0.alloc (.map #[] 0)).alloc (.cells #[.pointer (some ⟨p,0,none⟩),.slice ma tbs.length mc,.map (some w0.heap.size)] 151)).alloc (.cells #[.int .i64 i] 3)) ((heap3a w0 _ _ _).trans (heap_alloc_new w0 _).symm))
  have x5:=hid (heap3b w0 (.map #[] 0) (.cells #[.pointer (some ⟨p,0,none⟩),.slice ma tbs.length mc,.map (some w0.heap.size)] 151) (.cells #[.int .i64 i] 3))
  have i5:=RdI.lit [i] 3 ((w0.alloc (.map #[] 0)).alloc (.cells #[.pointer (some ⟨p,0,none⟩),.slice ma tbs.length mc,.map (some w0.heap.size)] 151)) (fun x hx=>by rw [List.mem_singleton.1 hx];exact HI.out)
  simp only [World.size_alloc] at i5
  have I5:=hid i5
  have s5:=hid (show(((w0.alloc (.map #[] 0)).alloc (.cells #[.pointer (some ⟨p,0,none⟩),.slice ma tbs.length mc,.map (some w0.heap.size)] 151)).alloc (.cells #[.int .i64 i] 3)).heap.size=w0.heap.size+3 from by simp)
  clear i5
  refine hsrt.out.mono ?_;rintro e w' ⟨rfl,rfl⟩
  clear hsrt
  go_wp2_with fail
  simp only [List.map_cons,List.map_nil] at I5
  generalize ((w0.alloc (.map #[] 0)).alloc (.cells #[.pointer (some ⟨p,0,none⟩),.slice ma tbs.length mc,.map (some w0.heap.size)] 151)).alloc (.cells #[.int .i64 i] 3)=w5 at *
  have B5:=hid (hB0.out.trans (b5.out.mono hB0.out.size))
  have hwk:=hid (walk_any B p T (some ⟨w0.heap.size+1+1,0,none⟩) 1 1 [i] w5 (HT.out.all B5.out) HG.out.ok I5.out (by decide))
  have hrange:=hid (walkT_ok HG.out.ok.ord [i]).2
  have hlen:=hid (walkT_ok HG.out.ok.ord [i]).1.small.2
  have hle:=hid HG.out.ok.sm.le
  generalize (walkT T [i]).2=L at *
  refine hwk.out.mono ?_
  rintro e w6 ⟨aL,cL,rfl,oL,b6⟩
  have hL:=(RdI.own oL (fun x hx=>by have:=hrange.out x hx;have:=hle.out;omega)).2.1
  have R6:=hid hL
  have hLd:=hid (fun x hx=>(show w0.heap.size+3≤Addr.block x from by have:=((RdI.own oL (fun x hx=>by have:=hrange.out x hx;have:=hle.out;omega)).2.2 x hx).1;rw [s5.out] at this;exact this))
  have B6:=hid (B5.out.trans (b6.mono B5.out.size))
  have hz6:=hid (show w0.heap.size+3≤w6.heap.size from by have:=b6.size;have:=s5.out;omega)
  have XW:=hid ((b6.block _ (by have:=s5.out;omega)).trans x5.out)
  have XR:=hid ((b6.block _ (by have:=s5.out;have:=hsz0.out;omega)).trans ((b5.out.block _ (by have:=hsz0.out;omega)).trans X0.out))
  have E6:=hid (EvS.start (S:=S) (w:=w) (dm:=w0.heap.size) B6.out (by have:=hsz0.out;omega) (m5.out.same (b6.block _ (by have:=s5.out;omega))))
  clear hL oL b6 hwk b5 m5 x5 I5 s5 B5 q1 XM X0 w5
  go_wp2
  go_loopw [7,12,13,14,15,17,18,19,39] (fun v7 _ _ _ _ _ _ _ v39 wr=>∃(k:Nat) (F:Int→Option ValD),k≤L.length∧v39 = .int .i64 k∧v7 = .int .i64 0∧Hid (evalOut (evalL tbs T (L.drop k) F) i=R)∧Hid (EvS S w w0.heap.size F k wr)∧Hid (KeepM w6 w0.heap.size wr)) (fun _ _ _ _ _ _ _ _ v39 _=>L.length - (intOf v39).toNat)
  case atStart=>exact⟨0,fun _=>none,Nat.zero_le _,rfl,rfl,hR2.out,E6.out,KeepM.refl _ _⟩
  case round=>
   obtain ⟨k,F,hk,rfl,rfl,hE,hS,hK⟩:=hrel
   clear E6 hR2 hRe
   by_cases hlt:k<L.length
   case neg=>
    obtain rfl:k=L.length:=by omega
    have hRv:=hid (show((F i).getD noVal,(0:Int))=R from by have h:=hE.out;rw [List.drop_length] at h;exact h)
    obtain ⟨a8,c8,b8,d8,hlk,V8,hv8⟩:=hS.out.look HI.out
    have how:=hid (mown_any ((F i).getD noVal) a8 b8 c8 d8 wr V8 hv8.1 hv8.2)
    have w2:wr.cell? ⟨w0.heap.size+1,2,none⟩=some (.map (some w0.heap.size)):=cell_p (hK.out.at XW.out (by omega)) 2
    have XR1:=hid (hK.out.at XR.out (by have:=hsz0.out;omega))
    have BR:=hid hS.out.b
    have hki:¬(L.length:Int)<L.length:=by omega
    clear V8 hv8 hE hS hK
    generalize (F i).getD noVal=v at *
    obtain ⟨s9,b9,⟨n9,u9,d9⟩,e9⟩:=v
    go_wp2_with fail
    refine how.out.mono ?_
    rintro e w7 ⟨a,c,b,d,rfl,V7,hb7⟩
    have X7:=hid ((hb7.block _ (Array.getElem?_eq_some_iff.1 XR1.out).1).trans XR1.out)
    have B7:=hid (BR.out.trans (hb7.mono BR.out.size))
    have V7':=hid (V7.mono (S':=DatF w.heap.size w7) fun q _ hq=>⟨hq.1,Nat.le_trans BR.out.size hq.2⟩)
    clear V7 hb7 how
    have z0:=cell_p X7.out 0
    have z1:=cell_p X7.out 1
    have z2:=cell_p X7.out 2
    have z3:=cell_p X7.out 3
    have z4:=cell_p X7.out 4
    have z5:=cell_p X7.out 5
    have f0:=frz_p X7.out 0
    have f1:=frz_p X7.out 1
    have f2:=frz_p X7.out 2
    have f3:=frz_p X7.out 3
    have f4:=frz_p X7.out 4
    have f5:=frz_p X7.out 5
    simp only [List.getElem?_toArray,List.getElem?_cons_succ,List.getElem?_cons_zero] at z0 z1 z2 z3 z4 z5
    go_wp2
    refine bodyPost_ret (v:=.tuple #[valV ⟨s9,b9,⟨n9,u9,d9⟩,e9⟩ a c b d,.int .i64 0]) (by simp [results,Tryz.results35,go_sem, *]) rfl ?_
    rw [←hRv.out]
    exact evEnd (v:=⟨s9,b9,⟨n9,u9,d9⟩,e9⟩) X7.out (by omega) V7'.out B7.out [(0,.int .i64 s9),(1,.bool b9),(2,.bool n9),(3,.slice a u9.length c),(4,.slice b d9.length d),(5,.int .i64 e9)]
   case pos=>
    obtain ⟨bL,oL,rfl,kL⟩:=(R6.out.hold (w':=wr) (fun hn x hx=>hK.out.block _ (by
     obtain ⟨b1,o1,hb1,hlt1,_⟩:=R6.out.cells hn
     rw [hb1] at hx;injection hx with hx;rw [←hx];exact hlt1) (by have:=hLd.out x hx;omega)) hK.out.size).at k hlt
    obtain ⟨g0,g1⟩:=hrange.out (nth L k) (nth_mem hlt)
    have hEk:=hE.out
    rw [evalL_at hlt] at hEk
    obtain ⟨j,hj⟩:=Int.eq_ofNat_of_zero_le g0
    rw [hj] at kL g1 hEk
    have hjn:j<T.nodes.length:=by omega
    have hng:=hid (HG.out.at hjn)
    have hal:(nodeAt T j).args.length≤64:=hng.out.args
    have har:=hid (HA.out _ (List.mem_of_getElem? (nodeAt_nat hjn)))
    have hnd:=hid (node_any B p T j wr (HT.out.all hS.out.b) hjn HG.out.ok.sn)
    have hki:(k:Int)<L.length:=by omega
    have hjI:=hid (show okI (j:Int) from by have:=hle.out;unfold okI;omega)
    have hE2:=hid hEk
    clear hE hEk g0 hj
    generalize nodeAt T j=x at *
    obtain ⟨op,nm,⟨ng,nu,de⟩,args,so'⟩:=x
    dsimp only at hal
    go_wp2_with fail
    refine hnd.out.mono ?_
    rintro e w7 ⟨a,c,b,d,g,h,rfl,N7,b7⟩
    have NB:=hid (nodeB N7 b7)
    dsimp only at NB
    have hz7:=hid b7.size
    clear N7 b7 hnd
    go_wp2
    generalize (w7.alloc (.cells #[.int .i64 op,.string nm,.bool ng,.slice a nu.length c,.slice b de.length d,.slice g args.length h,.int .i64 so'] 38))=w8 at *
    have hw2:=hid (cell_p (hK.out.at XW.out (by omega)) 2)
    obtain ⟨i0,hi0,hi1,hi2,hi3⟩:=info_parts info_V
    have RA:=hid NB.out.n.args.toI
    have hac:=NB.out.n.ac
    have hzd:=hid (show w0.heap.size<wr.heap.size from hS.out.dlt)
    go_loopw [15,17,52] (fun v15 _ v52 ww=>∃jj:Nat,jj≤args.length∧v52 = .int .i64 jj∧Hid (Below w8.heap.size w8 ww)∧Hid (OwnR repV (fun q=>Ev S w w0.heap.size q∧q<w8.heap.size) ww w8.heap.size 64 v15 (argV F (args.take jj)))) (fun _ _ v52 _=>args.length - (intOf v52).toNat)
    case atStart=>exact⟨0,Nat.zero_le _,rfl,Below.refl _ _,OwnR.nil _ _ _ _ _⟩
    case round=>
     obtain ⟨jj,hjj,rfl,hB,hO⟩:=hrel
     obtain ⟨wz,rfl⟩:∃W,W=wr:=⟨_,rfl⟩
     by_cases hlj:jj<args.length
     case neg=>
      obtain rfl:jj=args.length:=by omega
      have hln:(argV F (args.take args.length)).length=args.length:=by rw [argV_len,List.length_take,Nat.min_self]
      rw [List.take_length] at hO hln
      obtain ⟨la,lc,rfl,hlc,_⟩:=hO.out.slice
      have bwz:=hid (NB.out.b.trans (hB.out.mono NB.out.b.size))
      have XWz:=hid ((bwz.out.block _ (Nat.lt_of_lt_of_le (Array.getElem?_eq_some_iff.1 XW.out).1 hK.out.size)).trans (hK.out.at XW.out (by omega)))
      have XRz:=hid ((bwz.out.block _ (Nat.lt_of_lt_of_le (Array.getElem?_eq_some_iff.1 XR.out).1 hK.out.size)).trans (hK.out.at XR.out (by have:=hsz0.out;omega)))
      have BZ:=hid (hS.out.b.trans (bwz.out.mono hS.out.b.size))
      have hmn:=mnode_any (S:=Ev S w w0.heap.size) (w0.heap.size+1) tbs ma mc ⟨op,nm,⟨ng,nu,de⟩,args,so'⟩ a c b d g h la (argV F args).length lc (argV F args) wz (cell_p XWz.out 1)
       ⟨(HM.out.tbs.mono (S':=Ev S w w0.heap.size) fun q hq hs=>.inl ⟨hq,hs⟩).below BZ.out (Nat.le_refl _),HM.out.cap⟩ HS.out
       ((NB.out.n.mono (S':=Ev S w w0.heap.size) fun q _ hq=>.inr ⟨Nat.le_trans hS.out.b.size hq.2,by have:=hzd.out;have:=hq.2;omega⟩).below hB.out)
       (hO.out.read (fun q _ hq=>hq.1) fun q hq=>.inr (by have:=(hO.out.lt q hq).1;have:=NB.out.b.size;have:=hzd.out;have:=hS.out.b.size;exact⟨by omega,by omega⟩)) hlc (by omega) (hS.out.smallL args) (by rw [hln];exact har.out)
      obtain ⟨r,hr⟩:∃r,evalNode tbs ⟨op,nm,⟨ng,nu,de⟩,args,so'⟩ (argV F args)=r:=⟨_,rfl⟩
      have hsv:=hid (show smallV r.1 from by rw [←hr];exact smallV_node HS.out hng.out (hS.out.smallL args))
      rw [hr] at hE2 hmn
      obtain ⟨⟨s9,bo9,⟨n9,u9,de9⟩,e9⟩,er⟩:=r
      have hmn':=hid hmn
      have Y:=(hB.out.block _ (by rw [NB.out.s];exact Nat.lt_succ_self _)).trans NB.out.hx
      have y0:=cell_p Y 0
      have y1:=cell_p Y 1
      have y2:=cell_p Y 2
      have y3:=cell_p Y 3
      have y4:=cell_p Y 4
      have y5:=cell_p Y 5
      have y6:=cell_p Y 6
      simp only [List.getElem?_toArray,List.getElem?_cons_succ,List.getElem?_cons_zero] at y0 y1 y2 y3 y4 y5 y6
      have hzz:=hid (show w0.heap.size<wz.heap.size from Nat.lt_of_lt_of_le hzd.out bwz.out.size)
      have HKz:=hid (hK.out.below bwz.out)
      have HSz:=hid (hS.out.below bwz.out)
      have hki2:¬(args.length:Int)<args.length:=by omega
      clear Y hmn hr NB hB hO RA hac har hng hS hK bwz hlc hln XW XR
      generalize (argV F args).length=ln at *
      go_wp2_with fail
      refine hmn'.out.mono ?_
      rintro e wn ⟨a9,c9,b9,d9,rfl,V9,bn⟩
      have bA:Below wn.heap.size wn (wn.alloc (.cells #[.int .i64 s9,.bool bo9,.bool n9,.slice a9 u9.length c9,.slice b9 de9.length d9,.int .i64 e9] 64)):=(Below.refl _ _).alloc (Nat.le_refl _) _
      have bz10:=hid (bn.trans (bA.mono bn.size))
      have XV:=hid (heap_alloc_new wn (.cells #[.int .i64 s9,.bool bo9,.bool n9,.slice a9 u9.length c9,.slice b9 de9.length d9,.int .i64 e9] 64))
      have VV:=hid ((V9.mono (S':=Ev S w w0.heap.size) fun q _ hq=>hq.elim (fun h=>h.2) fun h=>.inr ⟨Nat.le_trans BZ.out.size h.2,by have:=hzz.out;have:=h.2;omega⟩).below bA (Nat.le_refl _))
      clear V9 bA bn hmn' y0 y1 y2 y3 y4 y5 y6
      by_cases her:er=0
      case neg=>
       have hRv:=hid (show(noVal,er)=R from by
        have h:=hE2.out
        try dsimp only at h
        rw [if_neg her] at h
        unfold evalOut at h
        try dsimp only at h
        rw [if_neg her] at h
        exact h)
       have XR2:=hid ((bz10.out.block _ (Array.getElem?_eq_some_iff.1 XRz.out).1).trans XRz.out)
       have B10:=hid (BZ.out.trans (bz10.out.mono BZ.out.size))
       clear hE2
       have heb:(er == 0)=false:=by simpa using her
       have z0:=cell_p XR2.out 0
       have z1:=cell_p XR2.out 1
       have z2:=cell_p XR2.out 2
       have z3:=cell_p XR2.out 3
       have z4:=cell_p XR2.out 4
       have z5:=cell_p XR2.out 5
       have f0:=frz_p XR2.out 0
       have f1:=frz_p XR2.out 1
       have f2:=frz_p XR2.out 2
       have f3:=frz_p XR2.out 3
       have f4:=frz_p XR2.out 4
       have f5:=frz_p XR2.out 5
       simp only [List.getElem?_toArray,List.getElem?_cons_succ,List.getElem?_cons_zero] at z0 z1 z2 z3 z4 z5
       go_wp2
       refine bodyPost_ret (v:=.tuple #[valV noVal none 0 none 0,.int .i64 er]) (by simp [results,Tryz.results35,go_sem,noVal,noRat, *]) rfl ?_
       rw [←hRv.out]
       exact evEnd XR2.out (by omega) noVal_S B10.out [(0,.int .i64 0),(1,.bool false),(2,.bool false),(3,.slice none 0 0),(4,.slice none 0 0),(5,.int .i64 0)]
      case pos=>
       subst her
       have hE3:=hid (show evalOut (evalL tbs T (L.drop (k+1)) (updV F j ⟨s9,bo9,⟨n9,u9,de9⟩,e9⟩)) i=R from by have h:=hE2.out;rw [if_pos rfl] at h;exact h)
       clear hE2
       go_upto_region 18 with fail
       generalize (wn.alloc (.cells #[.int .i64 s9,.bool bo9,.bool n9,.slice a9 u9.length c9,.slice b9 de9.length d9,.int .i64 e9] 64))=wA at *
       have XWA:=(bz10.out.block _ (Array.getElem?_eq_some_iff.1 XWz.out).1).trans XWz.out
       have w2:wA.cell? ⟨w0.heap.size+1,2,none⟩=some (.map (some w0.heap.size)):=cell_p XWA 2
       have EA:=(HSz.out.below bz10.out).below (keep_drew wA)
       obtain ⟨wS,hst,E11,ht11⟩:=EA.store (by have:=hle.out;have:=hlen.out;unfold maxLen;omega) hjI.out (VV.out.below (keep_drew wA) (Nat.le_refl _)) hsv.out
       have K11:=hid (((HKz.out.below bz10.out).below (keep_drew wA)).turned ht11)
       have E11':=hid E11
       have v0:=cell_p XV.out 0
       have v1:=cell_p XV.out 1
       have v2:=cell_p XV.out 2
       have v3:=cell_p XV.out 3
       have v4:=cell_p XV.out 4
       have v5:=cell_p XV.out 5
       simp only [List.getElem?_toArray,List.getElem?_cons_succ,List.getElem?_cons_zero] at v0 v1 v2 v3 v4 v5
       clear XWA EA E11 ht11
       try dsimp only at hst
       have hk16:L.length≤16384:=Nat.le_trans hlen.out hle.out
       go_region
       go_wp2
       go_roundw
       case rel=>exact⟨k+1,_,by omega,by go_num,rfl,hE3.out,E11'.out,K11.out⟩
       case measure=>simp [intOf];omega
     case pos=>
      obtain ⟨bA,oA,rfl,kA⟩:=(RA.out.below hB.out (Nat.le_refl _)).at jj hlj
      have hao:okI (nth args jj):=RA.out.wf _ (nth_mem hlj)
      obtain ⟨a9,c9,b9,d9,hlk,V9⟩:=hS.out.look2 (W':=wz) (NB.out.b.trans (hB.out.mono NB.out.b.size)) hao
      have w2:wz.cell? ⟨w0.heap.size+1,2,none⟩=some (.map (some w0.heap.size)):=keep_cell (NB.out.b.trans (hB.out.mono NB.out.b.size)) hw2.out
      have hji:(jj:Int)<args.length:=by omega
      have hln:=hid (show(argV F (args.take jj)).length=jj from by rw [argV_len,List.length_take];omega)
      have hsucc:=hid (argV_succ (F:=F) hlj)
      have V9':=hid (V9.mono (S':=fun q=>Ev S w w0.heap.size q∧q<w8.heap.size) fun q _ hq=>⟨hq.1,Nat.lt_of_lt_of_le hq.2 NB.out.b.size⟩)
      obtain ⟨css,oc,ol,oe⟩:=hO.out
      have OC:=hid oc
      have OL:=hid ol
      have OE:=hid oe
      have hwz8:=hid hB.out.size
      clear V9 oc ol oe hao
      generalize (F (nth args jj)).getD noVal=v at *
      generalize nth args jj=y at *
      obtain ⟨s9,bo9,⟨n9,u9,de9⟩,e9⟩:=v
      go_wp2_with (at_builtin;refine wpList_append_C rfl (.tmp 56) (.tmp 63) rfl Tryz.underlying78 hi0 hi1 hi2 hi3 rfl (by decide) rfl rfl (OC.out.alloc _) (Src.one (b:=wz.heap.size) (news:=valC ⟨s9,bo9,⟨n9,u9,de9⟩,e9⟩ a9 c9 b9 d9) rfl ?c1) ?c2 ?c3 ?c4 ?c5 ?_)
      case c1=>intro j u hu;first | (rw [World.cell?_alloc_new];simpa [valC] using hu) | exact hu
      case c2=>intro u hu;simp [valC] at hu;rcases hu with rfl | rfl | rfl | rfl | rfl | rfl <;> rfl
      case c3=>rw [hln.out];unfold maxLen;omega
      case c4=>rw [hln.out];omega
      case c5=>have:=hwz8.out;first | omega | (simp;omega)
      intro v' w4 ho4 hg4 _
      have B4:=hid ((hB.out.alloc hB.out.size (.cells #[.int .i64 s9,.bool bo9,.bool n9,.slice a9 u9.length c9,.slice b9 de9.length d9,.int .i64 e9] 64)).grown hg4 (by simp;have:=hwz8.out;omega) (fun k hk=>(OC.out.lt k hk).1))
      have O4:=OwnR.push (R:=repV) (S:=fun q=>Ev S w w0.heap.size q∧q<w8.heap.size) (x:=⟨s9,bo9,⟨n9,u9,de9⟩,e9⟩) OL.out OE.out (repV_rd.2 ⟨a9,c9,b9,d9,rfl,V9'.out⟩) ho4 (fun q hlt hq=>(grown_alloc hg4).block q hlt (fun e=>by have:=(OC.out.lt q e.symm).1;have:=hq.2;omega)) (grown_alloc hg4).size
      rw [←hsucc.out] at O4
      have O5:=hid O4
      clear ho4 hg4 hlk kA O4
      go_wp2
      go_roundw
      case rel=>exact⟨jj+1,by omega,by go_num,B4.out,O5.out⟩
      case measure=>simp [intOf];omega
end Go.Proofs.YtgoojkiccdjplaaGreatDoor
