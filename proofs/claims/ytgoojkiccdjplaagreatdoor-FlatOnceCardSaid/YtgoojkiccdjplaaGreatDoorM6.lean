/-
  Parts of this claim's texts, one behind the other: YK YL. No condition.
-/
import Derived.Test.YtgoojkiccdjplaaGreatDoorM5
set_option linter.unusedVariables false
set_option linter.unusedSimpArgs false
set_option maxRecDepth 100000
set_option maxHeartbeats 16000000
namespace Go.Proofs.YtgoojkiccdjplaaGreatDoor
open Go.RowKit Go.Sort Go.Lib
theorem sorted10_any (B p:Nat) (T:TermD) (nm:ByteArray) (a:Option Addr) (n c:Nat) (xs:List Int) (w:World) (H:SCtx B p T a n c xs w) :
  Calls Tryz.prog 87 #[.pointer (some ⟨p,0,none⟩),.int .i64 10,.string nm,.slice a n c] w fun e w'=>SrtPost T 10 nm xs w e w':=by
 have hd:=@hid (sortedD T 10 nm xs=if n=3∧(nodeAt T (nth xs 0)).sort=0∧alikeD T (xs.drop 1)=true then((nodeAt T (nth xs 1)).sort,true) else(0,false)) (by show iteD T xs=_;unfold iteD;rw [H.hx.len])
 have hn:=H.hn
 by_cases h3:n=3
 case neg=>
  have hv:=@hid (sortedD T 10 nm xs=(0,false)) (by rw [hd.out,if_neg (fun h=>h3 h.1)])
  have h3i:¬(n:Int)=3:=by omega
  have h3d:decide ((n:Int)=3)=false:=by simpa using h3i
  clear H hd
  go_enter Tryz.func87,Tryz.ntmps87
  go_wp2
  go_quiet (fail)
  go_wp2
  go_ret2
  exact SrtPost.of hv.out ((Below.refl _ _).drewN _)
 subst h3
 obtain ⟨b,o,rfl,k0⟩:=H.hx.at 0 (by omega)
 rw [Nat.add_zero] at k0
 obtain ⟨b',o',he,k9⟩:=H.hx.at 1 (by omega)
 cases he
 have lx:=H.hx.len
 obtain ⟨g0,g1⟩:=H.hi (nth xs 0) (nth_mem (by omega))
 obtain ⟨g2,g3⟩:=H.hi (nth xs 1) (nth_mem (by omega))
 obtain ⟨i,hi⟩:=Int.eq_ofNat_of_zero_le g0
 obtain ⟨j,hj⟩:=Int.eq_ofNat_of_zero_le g2
 rw [hi] at k0 g1 hd
 rw [hj] at k9 g3 hd
 have H':=hid H
 obtain ⟨q,a1,c1,a2,c2,m,ha⟩:=H.h.look
 have hi1:i<T.nodes.length:=by omega
 have hj1:j<T.nodes.length:=by omega
 have hi2:(i:Int)<T.nodes.length:=by omega
 have hj2:(j:Int)<T.nodes.length:=by omega
 have k1:w.cell? ⟨p,1,none⟩=some (.slice a1 T.nodes.length c1):=cell_p ha.blk 1
 obtain ⟨b1,o1,rfl,k2,_⟩:=ha.sortCell hi1
 obtain ⟨b2,o2,he,k3,_⟩:=ha.sortCell hj1
 cases he
 have hnc:=H.hnc
 have hal:=hid (fun(w1:World) (hw:Below w.heap.size w w1)=>alikeT_any B p T (fromA (some ⟨b,o,none⟩) c 1 1) 2 (c - 1) (xs.drop 1) w1 (H.h.all hw) ((H.hx.from1 (by omega) hnc).below hw (Nat.le_refl _)) (by omega) (H.hi.drop 1))
 have hsl:=fun W=>run_from1 (a:=some ⟨b,o,none⟩) (n:=3) (by omega) hnc W
 clear H ha g0 g2 hi hj
 generalize (nodeAt T i).sort=y at *
 generalize (nodeAt T j).sort=z at *
 by_cases hy:y=0
 case neg=>
  have hv:=@hid (sortedD T 10 nm xs=(0,false)) (by rw [hd.out,if_neg (fun h=>hy h.2.1)])
  have hyd:decide (y=0)=false:=by simpa using hy
  clear hd hal hsl
  go_enter Tryz.func87,Tryz.ntmps87
  go_wp2
  go_quiet (fail)
  go_wp2
  go_ret2
  exact SrtPost.of hv.out ((Below.refl _ _).drewN _)
 subst hy
 cases hA:alikeD T (xs.drop 1)
 case false=>
  have hv:=@hid (sortedD T 10 nm xs=(0,false)) (by rw [hd.out,hA];simp)
  rw [hA] at hal
  clear hd hA
  go_enter Tryz.func87,Tryz.ntmps87
  go_wp2_with fail
  refine wp_region_tt (S:=fun W=>Below w.heap.size w W) 20 (by kernel_rfl) (by kernel_rfl) (keep_drew w) (fun _=>?_)
  refine tk (i:=0) (h:=?_)
  (try simp only [Act.put,sA,sB,sC])
  refine tk (i:=1) (h:=?_)
  (try simp only [Act.put,sA,sB,sC])
  refine tk (i:=2) (h:=?_)
  (try simp only [Act.put,sA,sB,sC])
  refine tk (i:=3) (h:=?_)
  (try simp only [Act.put,sA,sB,sC])
  refine tk (i:=4) (h:=?_)
  (try simp only [Act.put,sA,sB,sC])
  refine tk (i:=5) (h:=?_)
  (try simp only [Act.put,sA,sB,sC])
  refine tk (i:=6) (h:=?_)
  (try simp only [Act.put,sA,sB,sC])
  refine tk (i:=7) (hy:=(by first | exact Or.inl ⟨by rfl,by(intro W hSw;have hq:=keep_cell hSw k1;go_simp <;> with_reducible rfl)⟩ | exact Or.inr ⟨by rfl,rfl⟩)) (h:=?_)
  (try simp only [Act.put,sA,sB,sC])
  refine tk (i:=8) (h:=?_)
  (try simp only [Act.put,sA,sB,sC])
  refine tk (i:=9) (h:=?_)
  (try simp only [Act.put,sA,sB,sC])
  refine tk (i:=10) (hy:=(by first | exact Or.inl ⟨by rfl,by(intro W hSw;have hq:=keep_cell hSw k0;go_simp <;> with_reducible rfl)⟩ | exact Or.inr ⟨by rfl,rfl⟩)) (h:=?_)
  (try simp only [Act.put,sA,sB,sC])
  refine tk (i:=11) (h:=?_)
  (try simp only [Act.put,sA,sB,sC])
  refine tk (i:=12) (h:=?_)
  (try simp only [Act.put,sA,sB,sC])
  refine tk (i:=13) (hy:=(by first | exact Or.inl ⟨by rfl,by(intro W hSw;have hq:=keep_cell hSw k2;go_simp <;> with_reducible rfl)⟩ | exact Or.inr ⟨by rfl,rfl⟩)) (h:=?_)
  (try simp only [Act.put,sA,sB,sC])
  refine tk (i:=14) (h:=?_)
  (try simp only [Act.put,sA,sB,sC])
  refine tk (i:=15) (h:=?_)
  (try simp only [Act.put,sA,sB,sC])
  refine tk (i:=16) (h:=?_)
  (try simp only [Act.put,sA,sB,sC])
  refine tk (i:=17) (h:=?_)
  (try simp only [Act.put,sA,sB,sC])
  refine tk (i:=18) (h:=?_)
  (try simp only [Act.put,sA,sB,sC])
  refine tk (i:=19) (h:=?_)
  (try simp only [Act.put,sA,sB,sC])
  refine tt_tail (by decide +kernel) ?_
  simp only [List.drop_succ_cons,List.drop_zero]
  go_wp2_with fail
  refine(hal.out _ (by assumption)).mono ?_;rintro e w1 ⟨rfl,hb⟩
  have hb':=hid ((keep_drew w).trans (hb.mono (keep_drew w).size))
  clear hb
  go_wp2
  go_ret2
  exact SrtPost.of hv.out hb'.out
 case true=>
  have hv:=@hid (sortedD T 10 nm xs=(z,true)) (by rw [hd.out,hA];simp)
  rw [hA] at hal
  clear hd hA
  go_enter Tryz.func87,Tryz.ntmps87
  go_wp2_with fail
  refine wp_region_tt (S:=fun W=>Below w.heap.size w W) 20 (by kernel_rfl) (by kernel_rfl) (keep_drew w) (fun _=>?_)
  refine tk (i:=0) (h:=?_)
  (try simp only [Act.put,sA,sB,sC])
  refine tk (i:=1) (h:=?_)
  (try simp only [Act.put,sA,sB,sC])
  refine tk (i:=2) (h:=?_)
  (try simp only [Act.put,sA,sB,sC])
  refine tk (i:=3) (h:=?_)
  (try simp only [Act.put,sA,sB,sC])
  refine tk (i:=4) (h:=?_)
  (try simp only [Act.put,sA,sB,sC])
  refine tk (i:=5) (h:=?_)
  (try simp only [Act.put,sA,sB,sC])
  refine tk (i:=6) (h:=?_)
  (try simp only [Act.put,sA,sB,sC])
  refine tk (i:=7) (hy:=(by first | exact Or.inl ⟨by rfl,by(intro W hSw;have hq:=keep_cell hSw k1;go_simp <;> with_reducible rfl)⟩ | exact Or.inr ⟨by rfl,rfl⟩)) (h:=?_)
  (try simp only [Act.put,sA,sB,sC])
  refine tk (i:=8) (h:=?_)
  (try simp only [Act.put,sA,sB,sC])
  refine tk (i:=9) (h:=?_)
  (try simp only [Act.put,sA,sB,sC])
  refine tk (i:=10) (hy:=(by first | exact Or.inl ⟨by rfl,by(intro W hSw;have hq:=keep_cell hSw k0;go_simp <;> with_reducible rfl)⟩ | exact Or.inr ⟨by rfl,rfl⟩)) (h:=?_)
  (try simp only [Act.put,sA,sB,sC])
  refine tk (i:=11) (h:=?_)
  (try simp only [Act.put,sA,sB,sC])
  refine tk (i:=12) (h:=?_)
  (try simp only [Act.put,sA,sB,sC])
  refine tk (i:=13) (hy:=(by first | exact Or.inl ⟨by rfl,by(intro W hSw;have hq:=keep_cell hSw k2;go_simp <;> with_reducible rfl)⟩ | exact Or.inr ⟨by rfl,rfl⟩)) (h:=?_)
  (try simp only [Act.put,sA,sB,sC])
  refine tk (i:=14) (h:=?_)
  (try simp only [Act.put,sA,sB,sC])
  refine tk (i:=15) (h:=?_)
  (try simp only [Act.put,sA,sB,sC])
  refine tk (i:=16) (h:=?_)
  (try simp only [Act.put,sA,sB,sC])
  refine tk (i:=17) (h:=?_)
  (try simp only [Act.put,sA,sB,sC])
  refine tk (i:=18) (h:=?_)
  (try simp only [Act.put,sA,sB,sC])
  refine tk (i:=19) (h:=?_)
  (try simp only [Act.put,sA,sB,sC])
  refine tt_tail (by decide +kernel) ?_
  simp only [List.drop_succ_cons,List.drop_zero]
  go_wp2_with fail
  refine(hal.out _ (by assumption)).mono ?_;rintro e w1 ⟨rfl,hb⟩
  have hb0:=(keep_drew w).trans (hb.mono (keep_drew w).size)
  have hb':=hid hb0
  have q1:=keep_cell hb0 k1
  have q9:=keep_cell hb0 k9
  have q3:=keep_cell hb0 k3
  clear hb hb0 k0 k1 k2 k3 k9
  go_wp2
  go_quiet (fail)
  go_wp2
  go_ret2
  exact SrtPost.of hv.out (hb'.out.drewN _)
theorem sorted_any (B p:Nat) (T:TermD) (op:Int) (nm:ByteArray) (a:Option Addr) (n c:Nat) (xs:List Int) (w:World) (H:SCtx B p T a n c xs w) (h1:1≤op) (h2:op≤20) :
  Calls Tryz.prog 87 #[.pointer (some ⟨p,0,none⟩),.int .i64 op,.string nm,.slice a n c] w fun e w'=>SrtPost T op nm xs w e w':=by
 have:op=1∨op=2∨op=3∨op=4∨op=5∨op=6∨op=7∨op=8∨op=9∨op=10∨op=11∨op=12∨op=13∨op=14∨op=15∨op=16∨op=17∨op=18∨op=19∨op=20:=by omega
 rcases this with rfl | rfl | rfl | rfl | rfl | rfl | rfl | rfl | rfl | rfl | rfl | rfl | rfl | rfl | rfl | rfl | rfl | rfl | rfl | rfl
 ·exact sorted1_any B p T nm a n c xs w H
 ·exact sorted2_any B p T nm a n c xs w H
 ·exact sorted3_any B p T nm a n c xs w H
 ·exact sorted4_any B p T nm a n c xs w H
 ·exact sorted5_any B p T nm a n c xs w H
 ·exact sorted6_any B p T nm a n c xs w H
 ·exact sorted7_any B p T nm a n c xs w H
 ·exact sorted8_any B p T nm a n c xs w H
 ·exact sorted9_any B p T nm a n c xs w H
 ·exact sorted10_any B p T nm a n c xs w H
 ·exact sorted11_any B p T nm a n c xs w H
 ·exact sorted12_any B p T nm a n c xs w H
 ·exact sorted13_any B p T nm a n c xs w H
 ·exact sorted14_any B p T nm a n c xs w H
 ·exact sorted15_any B p T nm a n c xs w H
 ·exact sorted16_any B p T nm a n c xs w H
 ·exact sorted17_any B p T nm a n c xs w H
 ·exact sorted18_any B p T nm a n c xs w H
 ·exact sorted19_any B p T nm a n c xs w H
 ·exact sorted20_any B p T nm a n c xs w H
abbrev nodeV (x:NodeD) (a:Option Addr) (c:Nat) (b:Option Addr) (d:Nat) (g:Option Addr) (e:Nat):Value:=
 .agg #[.int .i64 x.op,.string x.name,.bool x.val.neg,.slice a x.val.num.length c,.slice b x.val.den.length d,.slice g x.args.length e,.int .i64 x.sort]
def NumsX (p:Nat) (T:TermD) (w:World):Prop:=∃(Bn:Nat) (a:Option Addr) (c:Nat),w.cell? ⟨p,2,none⟩=some (.slice a T.nums.length c)∧OwnR repP (fun _=>False) w Bn 190 (.slice a T.nums.length c) T.nums∧p<w.heap.size
theorem NumsX.plt {p:Nat} {T:TermD} {w:World} (h:NumsX p T w):p<w.heap.size:=by obtain ⟨_,_,_,_,_,h⟩:=h;exact h
theorem NumsX.all {p:Nat} {T:TermD} {w w':World} (h:NumsX p T w) (hb:Below w.heap.size w w'):NumsX p T w':=by
 obtain ⟨Bn,a,c,h1,h2,h3⟩:=h
 exact⟨Bn,a,c,keep_cell hb h1,h2.below hb (Nat.le_refl _),Nat.lt_of_lt_of_le h3 hb.size⟩
theorem numsAt {T:TermD} {w:World} {Bn:Nat} {a:Option Addr} {n c:Nat} (h:OwnR repP (fun _=>False) w Bn 190 (.slice a n c) T.nums) {k:Nat} (hk:k<T.nums.length):∃b o,a=some ⟨b,o,none⟩∧w.cell? ⟨b,o+k * 2,none⟩=some (.bool (numAt T k).1)∧w.cell? ⟨b,o+k * 2+1,none⟩=some (.bool (numAt T k).2):=
 (h.read (S':=fun _=>True) (fun _ _ _=>trivial) (fun _ _=>trivial)).numAt (numAt_nat hk)
def numPre (T:TermD) (xs:List Int) (k:Nat):Prop:=∀j,j<k→(numAt T (nth xs j)).1=true
theorem numAll_of {T:TermD} {xs:List Int} (h:numPre T xs xs.length):numAll T xs=true:=by
 unfold numAll
 rw [List.all_eq_true]
 intro x hx
 obtain ⟨j,hj,rfl⟩:=List.getElem_of_mem hx
 rw [←nth_eq hj];exact h j hj
theorem numAll_not {T:TermD} {xs:List Int} {k:Nat} (hk:k<xs.length) (h:(numAt T (nth xs k)).1=false):numAll T xs=false:=by
 unfold numAll
 rw [List.all_eq_false]
 exact⟨nth xs k,nth_mem hk,by rw [h];decide⟩
def NumPost (T:TermD) (x:NodeD) (w:World) (e:Ending) (w':World):Prop:=e = .returned (.agg #[.bool (numberD T x).1,.bool (numberD T x).2])∧Below w.heap.size w w'
theorem len0 (n:Nat):((n:Int) == 0)=decide (n=0):=by
 cases n with
 | zero=>rfl
 | succ n=>rw [decide_eq_false (by omega)];simp;omega
theorem below2 (w:World) (o1 o2:Obj):Below w.heap.size w ((w.alloc o1).alloc o2):=((Below.refl _ _).alloc (Nat.le_refl _) _).alloc (by simp) _
def ResAt (w wr:World) (x y:Bool):Prop:=Below w.heap.size w wr∧wr.heap[w.heap.size+1]? = some (.cells #[.bool x,.bool y] 190 (0,0))
theorem ResAt.start (w:World) (o:Obj) (x y:Bool):ResAt w ((w.alloc o).alloc (.cells #[.bool x,.bool y] 190)) x y:=⟨below2 w _ _,heap2b w _ _⟩
theorem ResAt.set {w wr:World} {x y x' y':Bool} (h:ResAt w wr x y):ResAt w ((wr.setCell ⟨w.heap.size+1,0,none⟩ (.bool x')).setCell ⟨w.heap.size+1,1,none⟩ (.bool y')) x' y':=by
 refine⟨(h.1.setCell (by simp) _).setCell (by simp) _,?_⟩
 unfold World.setCell
 rw [Array.getElem?_modify,if_pos rfl,Array.getElem?_modify,if_pos rfl,h.2]
 rfl
theorem ResAt.drew {w wr:World} {x y:Bool} (h:ResAt w wr x y):ResAt w wr.drew x y:=⟨h.1.drewN 1,h.2⟩
theorem number_any (p:Nat) (T:TermD) (x:NodeD) (a b g:Option Addr) (c d e:Nat) (w:World) (h:NumsX p T w) (hra:RdI w g x.args.length x.args) (hi:InT T x.args) (hn:x.args.length<1099511627776) (hne:x.op=16→1≤x.args.length) (hnn:T.nums.length=T.nodes.length) :
  Calls Tryz.prog 137 #[.pointer (some ⟨p,0,none⟩),nodeV x a c b d g e] w fun e w'=>NumPost T x w e w':=by
 have hd:=@hid (numberD T x=if x.op=11 then(true,decide (x.val.num.length=0)) else if x.op=14∨x.op=16 then(if numAll T x.args then(if x.op=16∨x.args.length=1 then numAt T (nth x.args 0) else(false,false)) else(false,false)) else(false,false)) rfl
 have hi':=hid hi
 have hnn':=hid hnn
 clear hnn
 obtain ⟨op,nm,⟨ng,nu,de⟩,args,so⟩:=x
 dsimp only at *
 have hB0:Below w.heap.size w ((w.alloc (.cells #[.int .i64 op,.string nm,.bool ng,.slice a nu.length c,.slice b de.length d,.slice g args.length e,.int .i64 so] 38)).alloc (.cells #[.bool false,.bool false] 190)):=((Below.refl _ _).alloc (Nat.le_refl _) _).alloc (by simp) _
 have hB0':=hid hB0
 have h1:=hid h
 have hra':=hid hra
 have hp0:=hid h.plt
 obtain ⟨Bn,a2,c2,k1n,ha,_⟩:=h.all hB0
 have k1:((w.alloc (.cells #[.int .i64 op,.string nm,.bool ng,.slice a nu.length c,.slice b de.length d,.slice g args.length e,.int .i64 so] 38)).alloc (.cells #[.bool false,.bool false] 190)).cell? ⟨p,2,none⟩=some (.slice a2 T.nums.length c2):=k1n
 have ha':=hid ha
 clear h hi hB0 hra ha
 by_cases h11:op=11
 ·subst h11
  have hv:=@hid (numberD T ⟨11,nm,⟨ng,nu,de⟩,args,so⟩=(true,decide (nu.length=0))) (by rw [hd.out];rfl)
  go_enter Tryz.func137,Tryz.ntmps137
  go_wp2
  refine bodyPost_ret (v:=.agg #[.bool true,.bool ((nu.length:Int) == 0)]) (by simp [results,Tryz.results137,go_sem, *]) rfl ?_
  exact⟨by rw [hv.out,←len0],below2 w _ _⟩
 by_cases h14:op=14∨op=16
 case neg=>
  have hv:=@hid (numberD T ⟨op,nm,⟨ng,nu,de⟩,args,so⟩=(false,false)) (by rw [hd.out,if_neg h11,if_neg h14])
  have i14:¬op=14:=fun e=>h14 (.inl e)
  have i16:¬op=16:=fun e=>h14 (.inr e)
  clear h14
  go_enter Tryz.func137,Tryz.ntmps137
  go_wp2
  refine bodyPost_ret (v:=.agg #[.bool false,.bool false]) (by simp [results,Tryz.results137,go_sem, *]) rfl ?_
  exact⟨by rw [hv.out],below2 w _ _⟩
 have hd2:=@hid (numberD T ⟨op,nm,⟨ng,nu,de⟩,args,so⟩=(if numAll T args then(if op=16∨args.length=1 then numAt T (nth args 0) else(false,false)) else(false,false))) (by rw [hd.out,if_neg h11,if_pos h14])
 clear hd h11
 by_cases htake:op=16∨args.length=1
 case neg=>
  have e14:op=14:=by rcases h14 with e | e;exact e;exact absurd (.inl e) htake
  have hl1:¬(args.length:Int)=1:=fun e=>htake (.inr (by omega))
  have hl1d:decide ((args.length:Int)=1)=false:=by simpa using hl1
  have hR:=hid (ResAt.start w (.cells #[.int .i64 op,.string nm,.bool ng,.slice a nu.length c,.slice b de.length d,.slice g args.length e,.int .i64 so] 38) false false)
  clear h14
  subst e14
  have hd2:=@hid (numberD T ⟨14,nm,⟨ng,nu,de⟩,args,so⟩=(if numAll T args then(false,false) else(false,false))) (by rw [hd2.out,if_neg htake])
  go_enter Tryz.func137,Tryz.ntmps137
  go_wp2
  go_loopw [6,42] (fun _ i wr=>∃k:Nat,k≤args.length∧i = .int .i64 k∧Hid (numPre T args k)∧Hid (ResAt w wr false false)) (fun _ i _=>args.length - (intOf i).toNat)
  case atStart=>exact⟨0,Nat.zero_le _,rfl,fun j hj=>absurd hj (Nat.not_lt_zero _),hR.out⟩
  case round=>
   obtain ⟨k,hk,rfl,hne,hRr⟩:=hrel
   obtain ⟨Bw,Hb⟩:=hRr.out
   have rc0:=cell_p Hb 0
   have rc1:=cell_p Hb 1
   have f0:=frz_p Hb 0
   have f1:=frz_p Hb 1
   simp only [List.getElem?_toArray,List.getElem?_cons_succ,List.getElem?_cons_zero] at rc0 rc1
   have Bw':=hid Bw
   by_cases hlt:k<args.length
   ·obtain ⟨b3,o3,hg3,k0⟩:=(hra'.out.below Bw (Nat.le_refl _)).at k hlt
    cases hg3
    obtain ⟨g0,g1⟩:=hi'.out (nth args k) (nth_mem hlt)
    obtain ⟨j,hj⟩:=Int.eq_ofNat_of_zero_le g0
    obtain ⟨Bn,a2,c2,k3n,ha,_⟩:=h1.out.all Bw
    have hj1:j<T.nums.length:=by have:=hnn'.out;omega
    have hj2:(j:Int)<T.nums.length:=by have:=hnn'.out;omega
    have k3:wr.cell? ⟨p,2,none⟩=some (.slice a2 T.nums.length c2):=k3n
    obtain ⟨b1,o1,rfl,k4,_⟩:=numsAt ha hj1
    have hstep:=@hid ((numAt T j).1=true→numPre T args (k+1)) (fun e i hi=>by
     by_cases hik:i<k
     ·exact hne.out i hik
     ·obtain rfl:i=k:=by omega
      rw [hj];exact e)
    have hno:=@hid ((numAt T j).1=false→numAll T args=false) (fun e=>numAll_not hlt (by rw [hj];exact e))
    rw [hj] at k0
    clear ha g0 g1 hj hne Bw Hb
    cases hz:(numAt T j).1
    case true=>
     have hv:=hid (hstep.out hz)
     rw [hz] at k4
     clear hno hstep hz
     go_wp2
     go_roundw
     case rel=>exact⟨k+1,by omega,by go_num,hv.out,hRr.out⟩
     case measure=>simp [intOf];omega
    case false=>
     have hv:=@hid (numberD T ⟨14,nm,⟨ng,nu,de⟩,args,so⟩=(false,false)) (by rw [hd2.out,hno.out hz];rfl)
     rw [hz] at k4
     clear hno hstep hz
     go_wp2
     refine bodyPost_ret (v:=.agg #[.bool false,.bool false]) (by simp [results,Tryz.results137,go_sem, *]) rfl ?_
     exact⟨by rw [hv.out],(Bw'.out.setCell (by simp) _).setCell (by simp) _⟩
   ·have hkn:k=args.length:=by omega
    have hv:=@hid (numberD T ⟨14,nm,⟨ng,nu,de⟩,args,so⟩=(false,false)) (by rw [hd2.out,numAll_of (hkn ▸ hne.out)] <;> rfl)
    clear hkn Bw Hb
    go_wp2
    refine bodyPost_ret (v:=.agg #[.bool false,.bool false]) (by simp [results,Tryz.results137,go_sem, *]) rfl ?_
    exact⟨by rw [hv.out],(Bw'.out.setCell (by simp) _).setCell (by simp) _⟩
 by_cases h16:op=16
 case pos=>
  subst h16
  have hn1:=hne rfl
  clear h14 hne
  obtain ⟨b2,o2,rfl,k0⟩:=hra'.out.at 0 (by omega)
  obtain ⟨g0,g1⟩:=hi'.out (nth args 0) (nth_mem (by omega))
  obtain ⟨j,hj⟩:=Int.eq_ofNat_of_zero_le g0
  rw [hj] at k0 g1
  rw [Nat.add_zero] at k0
  have hj1:j<T.nums.length:=by have:=hnn'.out;omega
  have hj2:(j:Int)<T.nums.length:=by have:=hnn'.out;omega
  have hn0:0<args.length:=by omega
  obtain ⟨b1,o1,rfl,k4,k5⟩:=numsAt ha'.out hj1
  have hd3:=@hid (numberD T ⟨16,nm,⟨ng,nu,de⟩,args,so⟩=(if numAll T args then numAt T j else(false,false))) (by rw [hd2.out,if_pos htake,hj])
  clear hd2
  generalize numAt T j=r at *
  obtain ⟨r0,r1⟩:=r
  have hR0:=ResAt.start w (.cells #[.int .i64 16,.string nm,.bool ng,.slice a nu.length c,.slice b de.length d,.slice (some ⟨b2,o2,none⟩) args.length e,.int .i64 so] 38) false false
  have kb:((w.alloc (.cells #[.int .i64 16,.string nm,.bool ng,.slice a nu.length c,.slice b de.length d,.slice (some ⟨b2,o2,none⟩) args.length e,.int .i64 so] 38)).alloc (.cells #[.bool false,.bool false] 190)).cell? ⟨w.heap.size,5,none⟩=some (.slice (some ⟨b2,o2,none⟩) args.length e):=cell_p (heap2a w (Obj.cells #[.int .i64 16,.string nm,.bool ng,.slice a nu.length c,.slice b de.length d,.slice (some ⟨b2,o2,none⟩) args.length e,.int .i64 so] 38) (Obj.cells #[.bool false,.bool false] 190)) 5
  have kb':=hid kb
  have k1':=hid k1
  have k4':=hid k4
  have k0':=hid (keep_cell (below2 w (.cells #[.int .i64 16,.string nm,.bool ng,.slice a nu.length c,.slice b de.length d,.slice (some ⟨b2,o2,none⟩) args.length e,.int .i64 so] 38) (.cells #[.bool false,.bool false] 190)) k0)
  have k5':=hid k5
  have hR0':=hid hR0
  clear k0 k1 k4 k5 kb hR0 g0 g1 hj ha'
  go_enter Tryz.func137,Tryz.ntmps137
  go_wp2
  refine wp_tail 10 (by kernel_rfl) (by kernel_rfl) ?_
  intro W hW
  have m0:W.cell? ⟨b2,o2,none⟩=some (.int .i64 j):=by rw [hW];exact k0'.out
  have m1:W.cell? ⟨p,2,none⟩=some (.slice (some ⟨b1,o1,none⟩) T.nums.length c2):=by rw [hW];exact k1'.out
  have m2:W.cell? ⟨w.heap.size,5,none⟩=some (.slice (some ⟨b2,o2,none⟩) args.length e):=by rw [hW];exact kb'.out
  have m4:W.cell? ⟨b1,o1+j * 2,none⟩=some (.bool r0):=by rw [hW];exact k4'.out
  have m5:W.cell? ⟨b1,o1+j * 2+1,none⟩=some (.bool r1):=by rw [hW];exact k5'.out
  have R:ResAt w W false false:=by rw [hW];exact hR0'.out.drew
  have n0:=cell_p R.2 0
  have n1:=cell_p R.2 1
  have f0:=frz_p R.2 0
  have f1:=frz_p R.2 1
  simp only [List.getElem?_toArray,List.getElem?_cons_succ,List.getElem?_cons_zero] at n0 n1
  have hR:=hid (R.set (x':=r0) (y':=r1))
  clear hW k0' k1' k4' k5' kb' hR0' R
  simp only [List.take_succ_cons,List.take_zero,List.drop_succ_cons,List.drop_zero]
  repeat still_step
  refine wpStill_nil ?_
  have m2s:((W.setCell ⟨w.heap.size+1,0,none⟩ (.bool r0)).setCell ⟨w.heap.size+1,1,none⟩ (.bool r1)).cell? ⟨w.heap.size,5,none⟩=some (.slice (some ⟨b2,o2,none⟩) args.length e):=by
   rw [World.cell?_setCell_far _ _ _ _ (by simp),World.cell?_setCell_far _ _ _ _ (by simp)];exact m2
  go_wp2
  go_loopw [6,42] (fun _ i wr=>∃k:Nat,k≤args.length∧i = .int .i64 k∧Hid (numPre T args k)∧Hid (ResAt w wr r0 r1)) (fun _ i _=>args.length - (intOf i).toNat)
  case atStart=>exact⟨0,Nat.zero_le _,rfl,fun j hj=>absurd hj (Nat.not_lt_zero _),hR.out⟩
  case round=>
   obtain ⟨k,hk,rfl,hne,hRr⟩:=hrel
   obtain ⟨Bw,Hb⟩:=hRr.out
   have rc0:=cell_p Hb 0
   have rc1:=cell_p Hb 1
   have f0:=frz_p Hb 0
   have f1:=frz_p Hb 1
   simp only [List.getElem?_toArray,List.getElem?_cons_succ,List.getElem?_cons_zero] at rc0 rc1
   have Bw':=hid Bw
   by_cases hlt:k<args.length
   ·obtain ⟨b3,o3,hg3,k0⟩:=(hra'.out.below Bw (Nat.le_refl _)).at k hlt
    cases hg3
    obtain ⟨g0,g1⟩:=hi'.out (nth args k) (nth_mem hlt)
    obtain ⟨j,hj⟩:=Int.eq_ofNat_of_zero_le g0
    obtain ⟨Bn,a2,c2,k3n,ha,_⟩:=h1.out.all Bw
    have hj1:j<T.nums.length:=by have:=hnn'.out;omega
    have hj2:(j:Int)<T.nums.length:=by have:=hnn'.out;omega
    have k3:wr.cell? ⟨p,2,none⟩=some (.slice a2 T.nums.length c2):=k3n
    obtain ⟨b1,o1,rfl,k4,_⟩:=numsAt ha hj1
    have hstep:=@hid ((numAt T j).1=true→numPre T args (k+1)) (fun e i hi=>by
     by_cases hik:i<k
     ·exact hne.out i hik
     ·obtain rfl:i=k:=by omega
      rw [hj];exact e)
    have hno:=@hid ((numAt T j).1=false→numAll T args=false) (fun e=>numAll_not hlt (by rw [hj];exact e))
    rw [hj] at k0
    clear ha g0 g1 hj hne Bw Hb
    cases hz:(numAt T j).1
    case true=>
     have hv:=hid (hstep.out hz)
     rw [hz] at k4
     clear hno hstep hz
     go_wp2
     go_roundw
     case rel=>exact⟨k+1,by omega,by go_num,hv.out,hRr.out⟩
     case measure=>simp [intOf];omega
    case false=>
     have hv:=@hid (numberD T ⟨16,nm,⟨ng,nu,de⟩,args,so⟩=(false,false)) (by rw [hd3.out,hno.out hz];rfl)
     rw [hz] at k4
     clear hno hstep hz
     go_wp2
     refine bodyPost_ret (v:=.agg #[.bool false,.bool false]) (by simp [results,Tryz.results137,go_sem, *]) rfl ?_
     exact⟨by rw [hv.out],(Bw'.out.setCell (by simp) _).setCell (by simp) _⟩
   ·have hkn:k=args.length:=by omega
    have hv:=@hid (numberD T ⟨16,nm,⟨ng,nu,de⟩,args,so⟩=(r0,r1)) (by rw [hd3.out,numAll_of (hkn ▸ hne.out)] <;> rfl)
    clear hkn Bw Hb
    go_wp2
    refine bodyPost_ret (v:=.agg #[.bool r0,.bool r1]) (by simp [results,Tryz.results137,go_sem, *]) rfl ?_
    exact⟨by rw [hv.out],(Bw'.out.setCell (by simp) _).setCell (by simp) _⟩
 case neg=>
  have e14:op=14:=by rcases h14 with e | e;exact e;exact absurd e h16
  have hl1:args.length=1:=by rcases htake with e | e;exact absurd e h16;exact e
  have hl1i:(args.length:Int)=1:=by omega
  subst e14
  clear h14 hne
  obtain ⟨b2,o2,rfl,k0⟩:=hra'.out.at 0 (by omega)
  obtain ⟨g0,g1⟩:=hi'.out (nth args 0) (nth_mem (by omega))
  obtain ⟨j,hj⟩:=Int.eq_ofNat_of_zero_le g0
  rw [hj] at k0 g1
  rw [Nat.add_zero] at k0
  have hj1:j<T.nums.length:=by have:=hnn'.out;omega
  have hj2:(j:Int)<T.nums.length:=by have:=hnn'.out;omega
  have hn0:0<args.length:=by omega
  obtain ⟨b1,o1,rfl,k4,k5⟩:=numsAt ha'.out hj1
  have hd3:=@hid (numberD T ⟨14,nm,⟨ng,nu,de⟩,args,so⟩=(if numAll T args then numAt T j else(false,false))) (by rw [hd2.out,if_pos htake,hj])
  clear hd2
  generalize numAt T j=r at *
  obtain ⟨r0,r1⟩:=r
  have hR0:=ResAt.start w (.cells #[.int .i64 14,.string nm,.bool ng,.slice a nu.length c,.slice b de.length d,.slice (some ⟨b2,o2,none⟩) args.length e,.int .i64 so] 38) false false
  have kb:((w.alloc (.cells #[.int .i64 14,.string nm,.bool ng,.slice a nu.length c,.slice b de.length d,.slice (some ⟨b2,o2,none⟩) args.length e,.int .i64 so] 38)).alloc (.cells #[.bool false,.bool false] 190)).cell? ⟨w.heap.size,5,none⟩=some (.slice (some ⟨b2,o2,none⟩) args.length e):=cell_p (heap2a w (Obj.cells #[.int .i64 14,.string nm,.bool ng,.slice a nu.length c,.slice b de.length d,.slice (some ⟨b2,o2,none⟩) args.length e,.int .i64 so] 38) (Obj.cells #[.bool false,.bool false] 190)) 5
  have kb':=hid kb
  have k1':=hid k1
  have k4':=hid k4
  have k0':=hid (keep_cell (below2 w (.cells #[.int .i64 14,.string nm,.bool ng,.slice a nu.length c,.slice b de.length d,.slice (some ⟨b2,o2,none⟩) args.length e,.int .i64 so] 38) (.cells #[.bool false,.bool false] 190)) k0)
  have k5':=hid k5
  have hR0':=hid hR0
  clear k0 k1 k4 k5 kb hR0 g0 g1 hj ha'
  clear hl1
  go_enter Tryz.func137,Tryz.ntmps137
  go_wp2
  refine wp_tail 10 (by kernel_rfl) (by kernel_rfl) ?_
  intro W hW
  have m0:W.cell? ⟨b2,o2,none⟩=some (.int .i64 j):=by rw [hW];exact k0'.out
  have m1:W.cell? ⟨p,2,none⟩=some (.slice (some ⟨b1,o1,none⟩) T.nums.length c2):=by rw [hW];exact k1'.out
  have m2:W.cell? ⟨w.heap.size,5,none⟩=some (.slice (some ⟨b2,o2,none⟩) args.length e):=by rw [hW];exact kb'.out
  have m4:W.cell? ⟨b1,o1+j * 2,none⟩=some (.bool r0):=by rw [hW];exact k4'.out
  have m5:W.cell? ⟨b1,o1+j * 2+1,none⟩=some (.bool r1):=by rw [hW];exact k5'.out
  have R:ResAt w W false false:=by rw [hW];exact hR0'.out.drew
  have n0:=cell_p R.2 0
  have n1:=cell_p R.2 1
  have f0:=frz_p R.2 0
  have f1:=frz_p R.2 1
  simp only [List.getElem?_toArray,List.getElem?_cons_succ,List.getElem?_cons_zero] at n0 n1
  have hR:=hid (R.set (x':=r0) (y':=r1))
  clear hW k0' k1' k4' k5' kb' hR0' R
  simp only [List.take_succ_cons,List.take_zero,List.drop_succ_cons,List.drop_zero]
  repeat still_step
  refine wpStill_nil ?_
  clear hl1i
  have m2s:((W.setCell ⟨w.heap.size+1,0,none⟩ (.bool r0)).setCell ⟨w.heap.size+1,1,none⟩ (.bool r1)).cell? ⟨w.heap.size,5,none⟩=some (.slice (some ⟨b2,o2,none⟩) args.length e):=by
   rw [World.cell?_setCell_far _ _ _ _ (by simp),World.cell?_setCell_far _ _ _ _ (by simp)];exact m2
  go_wp2
  go_loopw [6,42] (fun _ i wr=>∃k:Nat,k≤args.length∧i = .int .i64 k∧Hid (numPre T args k)∧Hid (ResAt w wr r0 r1)) (fun _ i _=>args.length - (intOf i).toNat)
  case atStart=>exact⟨0,Nat.zero_le _,rfl,fun j hj=>absurd hj (Nat.not_lt_zero _),hR.out⟩
  case round=>
   obtain ⟨k,hk,rfl,hne,hRr⟩:=hrel
   obtain ⟨Bw,Hb⟩:=hRr.out
   have rc0:=cell_p Hb 0
   have rc1:=cell_p Hb 1
   have f0:=frz_p Hb 0
   have f1:=frz_p Hb 1
   simp only [List.getElem?_toArray,List.getElem?_cons_succ,List.getElem?_cons_zero] at rc0 rc1
   have Bw':=hid Bw
   by_cases hlt:k<args.length
   ·obtain ⟨b3,o3,hg3,k0⟩:=(hra'.out.below Bw (Nat.le_refl _)).at k hlt
    cases hg3
    obtain ⟨g0,g1⟩:=hi'.out (nth args k) (nth_mem hlt)
    obtain ⟨j,hj⟩:=Int.eq_ofNat_of_zero_le g0
    obtain ⟨Bn,a2,c2,k3n,ha,_⟩:=h1.out.all Bw
    have hj1:j<T.nums.length:=by have:=hnn'.out;omega
    have hj2:(j:Int)<T.nums.length:=by have:=hnn'.out;omega
    have k3:wr.cell? ⟨p,2,none⟩=some (.slice a2 T.nums.length c2):=k3n
    obtain ⟨b1,o1,rfl,k4,_⟩:=numsAt ha hj1
    have hstep:=@hid ((numAt T j).1=true→numPre T args (k+1)) (fun e i hi=>by
     by_cases hik:i<k
     ·exact hne.out i hik
     ·obtain rfl:i=k:=by omega
      rw [hj];exact e)
    have hno:=@hid ((numAt T j).1=false→numAll T args=false) (fun e=>numAll_not hlt (by rw [hj];exact e))
    rw [hj] at k0
    clear ha g0 g1 hj hne Bw Hb
    cases hz:(numAt T j).1
    case true=>
     have hv:=hid (hstep.out hz)
     rw [hz] at k4
     clear hno hstep hz
     go_wp2
     go_roundw
     case rel=>exact⟨k+1,by omega,by go_num,hv.out,hRr.out⟩
     case measure=>simp [intOf];omega
    case false=>
     have hv:=@hid (numberD T ⟨14,nm,⟨ng,nu,de⟩,args,so⟩=(false,false)) (by rw [hd3.out,hno.out hz];rfl)
     rw [hz] at k4
     clear hno hstep hz
     go_wp2
     refine bodyPost_ret (v:=.agg #[.bool false,.bool false]) (by simp [results,Tryz.results137,go_sem, *]) rfl ?_
     exact⟨by rw [hv.out],(Bw'.out.setCell (by simp) _).setCell (by simp) _⟩
   ·have hkn:k=args.length:=by omega
    have hv:=@hid (numberD T ⟨14,nm,⟨ng,nu,de⟩,args,so⟩=(r0,r1)) (by rw [hd3.out,numAll_of (hkn ▸ hne.out)] <;> rfl)
    clear hkn Bw Hb
    go_wp2
    refine bodyPost_ret (v:=.agg #[.bool r0,.bool r1]) (by simp [results,Tryz.results137,go_sem, *]) rfl ?_
    exact⟨by rw [hv.out],(Bw'.out.setCell (by simp) _).setCell (by simp) _⟩
end Go.Proofs.YtgoojkiccdjplaaGreatDoor
