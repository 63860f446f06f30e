/-
  Parts of this claim's texts, one behind the other: GD ZS ZT. No condition.
-/
import Derived.Test.YtgoojkiccdjplaaGreatDoorN28
import Derived.Test.YtgoojkiccdjplaaGreatDoorN33
import Derived.Test.YtgoojkiccdjplaaGreatDoorN3
import Derived.Test.YtgoojkiccdjplaaGreatDoorN0
import Derived.Test.YtgoojkiccdjplaaGreatDoorRows
import Derived.Lib.LaidU8
import Derived.Lib.LaidPrint
import Derived.PinnedBridge
import Derived.LaidOnce
import Derived.Lay
set_option linter.unusedVariables false
set_option linter.unusedSimpArgs false
set_option maxRecDepth 100000
set_option maxHeartbeats 16000000
namespace Go.Proofs.YtgoojkiccdjplaaGreatDoor
open Go.RowKit Go.Sort Go.Lib
def NotOwn (pt:Nat) (v:Value) (q:Nat):Prop:=q≠pt∧v.ownBlock≠some q
theorem RowJ_push {α:Type} {R:Rep α} {e tb:TypeId} {pt ci B:Nat} {cs:Array Value} {v v':Value} {xs:List α} {wX w4:World} {css:List (List Value)} {x:α} {xc:List Value}
  (hb:wX.heap[pt]? = some (.cells cs tb (0,0))) (hpt:pt<B) (oc:OwnC wX B e R.k v xs.length css.flatten) (ol:css.length=xs.length) (oe:∀(j:Nat) (x:α),xs[j]? = some x→∃cs,css[j]? = some cs∧R.rd (NotOwn pt v) wX x cs)
  (hx:R.rd (NotOwn pt v) wX x xc) (ho:OwnC w4 B e R.k v' (xs.length+1) (css.flatten++xc)) (hg:wX.grownBy w4 v.ownBlock) (hl:v'.ownBlock=v.ownBlock∨∀k,v'.ownBlock=some k→wX.heap.size≤k) :
  (w4.setCell ⟨pt,ci,none⟩ v').heap[pt]? = some (.cells (cs.setIfInBounds ci v') tb (0,0))∧OwnR R (NotOwn pt v') (w4.setCell ⟨pt,ci,none⟩ v') B e v' (xs ++ [x]) ∧
   (∀q,q<wX.heap.size→NotOwn pt v q→(w4.setCell ⟨pt,ci,none⟩ v').heap[q]? = wX.heap[q]?)∧wX.heap.size≤(w4.setCell ⟨pt,ci,none⟩ v').heap.size:=by
 have hvp:v.ownBlock≠some pt:=fun h=>by have:=(oc.lt pt h).1;omega
 have hvp':v'.ownBlock≠some pt:=fun h=>by have:=(ho.lt pt h).1;omega
 have h4:w4.heap[pt]? = some (.cells cs tb (0,0)):=(hg.block pt (Array.getElem?_eq_some_iff.1 hb).1 fun e=>hvp e.symm).trans hb
 have hne:∀q,q≠pt→(w4.setCell ⟨pt,ci,none⟩ v').heap[q]? = w4.heap[q]?:=fun q hq=>Below.heap_setCell _ _ _ _ hq
 have hsz:(w4.setCell ⟨pt,ci,none⟩ v').heap.size=w4.heap.size:=size_set
 refine⟨by unfold World.setCell;rw [Array.getElem?_modify,if_pos rfl,h4];rfl,?_,fun q hq hn=>(hne q hn.1).trans (hg.block q hq fun e=>hn.2 e.symm),by rw [hsz];exact hg.size⟩
 have O4:=OwnR.push (R:=R) (S:=fun q=>NotOwn pt v q∧q<wX.heap.size) (x:=x) ol (fun j y hy=>by
  obtain ⟨cs,h1,h2⟩:=oe j y hy
  exact⟨cs,h1,R.mono h2 fun b hlt hb=>⟨hb,hlt⟩⟩) (R.mono hx fun b hlt hb=>⟨hb,hlt⟩) ho (fun b hlt hb=>hg.block b hlt fun e=>hb.1.2 e.symm) hg.size
 have O5:=O4.mono (S':=NotOwn pt v') fun b _ hb=>⟨hb.1.1,fun h=>by
  rcases hl with h1 | h1
  ·rw [h1] at h;exact hb.1.2 h
  ·have:=h1 b h;have:=hb.2;omega⟩
 exact O5.keep (fun b _ hb=>hne b hb.1) (fun k hk=>hne k fun e=>hvp' (e ▸ hk)) (Nat.le_of_eq hsz.symm)
structure TellJ (w:World) (pt B:Nat) (am:Option Addr) (cm:Nat) (bm:Option Addr) (dm:Nat) (rows values:List Int) (k:Nat) (v:Value) (wr:World):Prop where
 blk:wr.heap[pt]? = some (.cells #[.string sf,v,.int .i64 (numV (-1) 1).sort,.bool (numV (-1) 1).bool,.bool (numV (-1) 1).num.neg,.slice am (numV (-1) 1).num.num.length cm,.slice bm (numV (-1) 1).num.den.length dm,.int .i64 (numV (-1) 1).el] 67 (0,0))
 own:OwnR repRow (NotOwn pt v) wr B 80 v (tellRows rows values k)
 els:ValS (NotOwn pt v) wr (numV (-1) 1) am cm bm dm
 b:Below w.heap.size w wr
 lo:w.heap.size≤pt∧pt<B∧B≤wr.heap.size
section
variable {w wr wX w4 : World} {pt B k : Nat} {am bm : Option Addr} {cm dm : Nat} {rows values : List Int} {v v' : Value}
theorem TellJ.all (h:TellJ w pt B am cm bm dm rows values k v wr) (hb:Below wr.heap.size wr wX):TellJ w pt B am cm bm dm rows values k v wX:=
 ⟨(hb.block _ (Array.getElem?_eq_some_iff.1 h.blk).1).trans h.blk,h.own.below hb (Nat.le_refl _),h.els.below hb (Nat.le_refl _),h.b.trans (hb.mono h.b.size),h.lo.1,h.lo.2.1,Nat.le_trans h.lo.2.2 hb.size⟩
theorem TellJ.c1 (h:TellJ w pt B am cm bm dm rows values k v wr):wr.cell? ⟨pt,1,none⟩=some v:=cell_p h.blk 1
theorem TellJ.tb (h:TellJ w pt B am cm bm dm rows values k v wr):∃ra rc,v = .slice ra (tellT rows values k).rows.length rc∧TbS (fun _=>True) wr (tellT rows values k) ra rc am cm bm dm:=by
 obtain ⟨ra,rc,hv,h1,h2⟩:=h.own.slice
 subst hv
 exact⟨ra,rc,rfl,h.own.read (fun _ _ _=>trivial) (fun _ _=>trivial),⟨h1,h2⟩,h.els.top⟩
theorem TellJ.push {css:List (List Value)} {xc:List Value} (h:TellJ w pt B am cm bm dm rows values k v wX) (oc:OwnC wX B 80 repRow.k v (tellRows rows values k).length css.flatten) (ol:css.length=(tellRows rows values k).length) (oe:∀(j:Nat) (x:RowD),(tellRows rows values k)[j]? = some x→∃cs,css[j]? = some cs∧repRow.rd (NotOwn pt v) wX x cs)
  (hx:repRow.rd (NotOwn pt v) wX (tellRow rows values k) xc) (ho:OwnC w4 B 80 repRow.k v' ((tellRows rows values k).length+1) (css.flatten++xc)) (hg:wX.grownBy w4 v.ownBlock) (hl:v'.ownBlock=v.ownBlock∨∀k,v'.ownBlock=some k→wX.heap.size≤k) :
  TellJ w pt B am cm bm dm rows values (k+1) v' (w4.setCell ⟨pt,1,none⟩ v'):=by
 obtain ⟨q1,q2,q3,q4⟩:=RowJ_push (ci:=1) h.blk h.lo.2.1 oc ol oe hx ho hg hl
 refine⟨q1,by rw [tellRows_succ];exact q2,?_,((h.b.grown hg (by have:=h.lo;omega) fun q hq=>by have:=(oc.lt q hq).1;have:=h.lo;omega)).setCell h.lo.1 _,h.lo.1,h.lo.2.1,Nat.le_trans h.lo.2.2 q4⟩
 refine((h.els.mono (S':=fun q=>NotOwn pt v q∧q<wX.heap.size) fun q hq hS=>⟨hS,hq⟩).keep (fun q hq hS=>q3 q hq hS.1) q4).mono fun q _ hS=>⟨hS.1.1,fun e=>?_⟩
 rcases hl with h1 | h1
 ·rw [h1] at e;exact hS.1.2 e
 ·have:=h1 q e;have:=hS.2;omega
theorem tell_rd {R V':Int} {n0 pA:Nat} {a a' b b':Option Addr} {c c' d d':Nat} (hvN:∀q,n0≤q→NotOwn pt v q) (hrow:tellRow rows values k=⟨[numV R 3],numV V' 1⟩)
  (XA:wX.heap[pA]? = some (.cells #[.int .i64 (numV R 3).sort,.bool (numV R 3).bool,.bool (numV R 3).num.neg,.slice a (numV R 3).num.num.length c,.slice b (numV R 3).num.den.length d,.int .i64 (numV R 3).el] 64 (0,0))) (hA:n0≤pA)
  (VA:ValS (fun q=>n0≤q) wX (numV R 3) a c b d) (VB:ValS (fun q=>n0≤q) wX (numV V' 1) a' c' b' d'):repRow.rd (NotOwn pt v) wX (tellRow rows values k) (rowC (tellRow rows values k) (some ⟨pA,0,none⟩) 1 a' c' b' d'):=by
 rw [hrow]
 refine repRow_rd.2 ⟨_,_,_,_,_,_,rfl,⟨?_,⟨by show(1:Nat)≤1;decide,by decide⟩,VB.mono fun q _ hq=>hvN q hq⟩⟩
 exact SlR.ofCss (css:=[valC (numV R 3) a c b d]) (xs:=[numV R 3]) XA (hvN _ hA) rfl fun j x hx=>by
  match j with
  | 0=>cases hx;exact⟨_,rfl,repV_rd.2 ⟨_,_,_,_,rfl,VA.mono fun q _ hq=>hvN q hq⟩⟩
  | j+1=>simp at hx
theorem tell_cells {R V':Int} {pA pR:Nat} {a' b':Option Addr} {c' d':Nat} (hrow:tellRow rows values k=⟨[numV R 3],numV V' 1⟩)
  (XR:wX.heap[pR]? = some (.cells #[.slice (some ⟨pA,0,none⟩) 1 1,.int .i64 (numV V' 1).sort,.bool (numV V' 1).bool,.bool (numV V' 1).num.neg,.slice a' (numV V' 1).num.num.length c',.slice b' (numV V' 1).num.den.length d',.int .i64 (numV V' 1).el] 80 (0,0))) :
  ∀j u,(rowC (tellRow rows values k) (some ⟨pA,0,none⟩) 1 a' c' b' d')[j]? = some u→wX.cell? ⟨pR,j,none⟩=some u:=fun j u hu=>by
 rw [hrow] at hu
 exact(cell_p XR j).trans (by simpa [rowC,valC] using hu)
end
theorem el_S {S:Nat→Prop} {w:World} {q:Int} (hq:okI q):ValS S w ⟨2,false,noRat,q⟩ none 0 none 0:=⟨(show okI 2 from⟨by decide,by decide⟩),hq,.nil _ _ _ _,⟨Nat.le_refl _,Nat.zero_le _⟩,.nil _ _ _ _,⟨Nat.le_refl _,Nat.zero_le _⟩⟩
theorem tablesTell_walk (a:Option Addr) (n c:Nat) (rows:List Int) (b:Option Addr) (m d:Nat) (values:List Int) (asked:Int) (w:World) (hE:EnvT w) (hx:RdI w a n rows) (_hn:n≤c∧c≤9223372036854775807) (hy:RdI w b m values) (_hm:m≤d∧d≤9223372036854775807) :
  Calls Tryz.prog 7 #[.slice a n c,.slice b m d,.int .i64 asked] w fun e w'=>e = .returned (.bool true)∧Below w.heap.size w w':=by
 have haw:=hid (fun(W:World) (hb:Below w.heap.size w W)=>awake10_any W (hE.all hb))
 have haw1:=hid (awake10_any w hE)
 have HX:=hid hx
 have HY:=hid hy
 have hlx:=hid hx.len
 have hly:=hid hy.len
 clear hE hx hy
 by_cases h12:n≤12
 case neg=>
  have h12i:(12:Int)<n:=by omega
  go_enter Tryz.func7,Tryz.ntmps7
  go_wp2_with fail
  refine haw1.out.mono ?_;rintro e w1 ⟨rfl,b1⟩
  have B1:=hid b1
  clear b1
  go_wp2
  go_ret
  exact⟨rfl,B1.out⟩
 case pos=>
 have h12i:¬(12:Int)<n:=by omega
 by_cases hmn:m<n
 case pos=>
  have hmni:(m:Int)<n:=by omega
  go_enter Tryz.func7,Tryz.ntmps7
  go_wp2_with fail
  refine haw1.out.mono ?_;rintro e w1 ⟨rfl,b1⟩
  have B1:=hid b1
  clear b1
  go_wp2
  go_ret
  exact⟨rfl,B1.out⟩
 case neg=>
 have hmni:¬(m:Int)<n:=by omega
 by_cases h20:m≤20
 case neg=>
  have h20i:(20:Int)<m:=by omega
  go_enter Tryz.func7,Tryz.ntmps7
  go_wp2_with fail
  refine haw1.out.mono ?_;rintro e w1 ⟨rfl,b1⟩
  have B1:=hid b1
  clear b1
  go_wp2
  go_ret
  exact⟨rfl,B1.out⟩
 case pos=>
 have h20i:¬(20:Int)<m:=by omega
 have hn1:=hid (number10_any (-1) 1 ⟨by decide,by decide⟩ (by decide) ⟨by decide,by decide⟩ w)
 clear haw1
 go_enter Tryz.func7,Tryz.ntmps7
 go_wp2_with fail
 refine hn1.out.mono ?_;rintro e w1 ⟨am,cm,bm,dm,rfl,V1,b1⟩
 have bt:Below w1.heap.size w1 (w1.alloc (.cells #[.string ⟨#[102]⟩,.slice none 0 0,.int .i64 (numV (-1) 1).sort,.bool (numV (-1) 1).bool,.bool (numV (-1) 1).num.neg,.slice am (numV (-1) 1).num.num.length cm,.slice bm (numV (-1) 1).num.den.length dm,.int .i64 (numV (-1) 1).el] 67)):=(Below.refl _ _).alloc (Nat.le_refl _) _
 have J0:=hid (show TellJ w w1.heap.size (w1.heap.size+1) am cm bm dm rows values 0 (.slice none 0 0) (w1.alloc (.cells #[.string ⟨#[102]⟩,.slice none 0 0,.int .i64 (numV (-1) 1).sort,.bool (numV (-1) 1).bool,.bool (numV (-1) 1).num.neg,.slice am (numV (-1) 1).num.num.length cm,.slice bm (numV (-1) 1).num.den.length dm,.int .i64 (numV (-1) 1).el] 67)) from
  ⟨heap_alloc_new w1 _,OwnR.nil _ _ _ _ _,(V1.mono (S':=NotOwn w1.heap.size (.slice none 0 0)) fun q hq _=>⟨by omega,by simp [Value.ownBlock]⟩).below bt (Nat.le_refl _),b1.trans (bt.mono b1.size),b1.size,by omega,by simp⟩)
 clear V1 b1 bt hn1
 have hr:=hid (fun W=>rnd_any asked 6 W (by decide) (by decide))
 have hqb:=hid (rnd_bd asked (n:=6) (by decide))
 generalize rndZ asked 6=q at *
 go_wp2_with fail
 generalize (w1.alloc (.cells #[.string ⟨#[102]⟩,.slice none 0 0,.int .i64 (numV (-1) 1).sort,.bool (numV (-1) 1).bool,.bool (numV (-1) 1).num.neg,.slice am (numV (-1) 1).num.num.length cm,.slice bm (numV (-1) 1).num.den.length dm,.int .i64 (numV (-1) 1).el] 67))=w2 at *
 refine(hr.out w2).mono ?_;rintro e w' ⟨rfl,rfl⟩
 generalize w1.heap.size=pt at *
 obtain ⟨i0,hi0,hi1,hi2,hi3⟩:=info_parts info_Row
 clear hr
 go_wp2
 go_loopw [8,10,11,12] (fun v8 v10 _ _ wr=>∃(k:Nat) (v:Value),k≤n∧v10 = .int .i64 k∧v8 = .int .i64 (tellWant rows values q k)∧Hid (TellJ w pt (pt+1) am cm bm dm rows values k v wr)) (fun _ v10 _ _ _=>n - (intOf v10).toNat)
 case atStart=>exact⟨0,_,Nat.zero_le _,rfl,rfl,J0.out⟩
 case round=>
  obtain ⟨k,v,hk,rfl,rfl,hJ⟩:=hrel
  clear J0
  by_cases hlt:k<n
  case pos=>
   obtain ⟨bx,ox,rfl,kx⟩:=(HX.out.below hJ.out.b (Nat.le_refl _)).at k hlt
   obtain ⟨by',oy,rfl,ky⟩:=(HY.out.below hJ.out.b (Nat.le_refl _)).at k (by omega)
   have hki:(k:Int)<n:=by omega
   have hkm:(k:Int)<m:=by omega
   have hr1:=hid (fun W=>rnd_any (nth rows k) 6 W (by decide) (by decide))
   have hr2:=hid (fun W=>rnd_any (nth values k) 100 W (by decide) (by decide))
   have hrow:=hid (show tellRow rows values k=⟨[numV (rndZ (nth rows k) 6) 3],numV (rndZ (nth values k) 100) 1⟩ from rfl)
   have hW1:=hid (show tellWant rows values q (k+1)=if rndZ (nth rows k) 6=q∧tellWant rows values q k<0 then rndZ (nth values k) 100 else tellWant rows values q k from rfl)
   have hRi:=hid (show okI (rndZ (nth rows k) 6) from by have:=rnd_bd (nth rows k) (n:=6) (by decide);unfold okI;omega)
   have hVi:=hid (show okI (rndZ (nth values k) 100) from by have:=rnd_bd (nth values k) (n:=100) (by decide);unfold okI;omega)
   generalize rndZ (nth rows k) 6=R at *
   generalize rndZ (nth values k) 100=V' at *
   generalize tellWant rows values q k=Wk at *
   generalize nth rows k=xr at *
   generalize nth values k=xv at *
   have hvN:=hid (show ∀q,wr.heap.size≤q→NotOwn pt v q from fun q hq=>⟨by have:=hJ.out.lo;omega,fun e=>by have:=(hJ.out.own.lt q e).2;omega⟩)
   have c1:=cell_p hJ.out.blk 1
   simp only [List.getElem?_toArray,List.getElem?_cons_succ,List.getElem?_cons_zero] at c1
   go_upto_region 9 with fail
   refine wp_region_tt (S:=fun W=>Below wr.heap.size wr W) 10 (by kernel_rfl) (by kernel_rfl) (keep_drew wr) (fun hdr=>?_)
   refine tk (i:=0) (h:=?_)
   (try simp only [Act.put,sA,sB,sC])
   refine tk (i:=1) (h:=?_)
   (try simp only [Act.put,sA,sB,sC])
   refine tk (i:=2) (h:=?_)
   (try simp only [Act.put,sA,sB,sC])
   refine tk (i:=3) (hy:=(Or.inl ⟨by rfl,by(intro W hSw;have hq:=keep_cell hSw kx;go_simp <;> with_reducible rfl)⟩)) (h:=?_)
   (try simp only [Act.put,sA,sB,sC])
   refine tk (i:=5) (h:=?_)
   (try simp only [Act.put,sA,sB,sC])
   refine tk (i:=6) (h:=?_)
   (try simp only [Act.put,sA,sB,sC])
   refine tk (i:=7) (h:=?_)
   (try simp only [Act.put,sA,sB,sC])
   refine tk (i:=8) (hy:=(Or.inl ⟨by rfl,by(intro W hSw;have hq:=keep_cell hSw ky;go_simp <;> with_reducible rfl)⟩)) (h:=?_)
   (try simp only [Act.put,sA,sB,sC])
   refine tt_ready (rs:=[4]) (by decide +kernel) (allT_cons (by rfl) (fun K hK=>?_) allT_nil)
   go_simp
   go_at_call 37
   refine(hr1.out _).mono ?_
   rintro ee wn ⟨rfl,rfl⟩
   (try dsimp only)
   refine hK.out _ _ (by(exact keep_drew wr)) (fun hHeld2=>?_)
   clear hK K
   (try simp only [Act.put,sA,sB,sC])
   refine tt_ready (rs:=[9]) (by decide +kernel) (allT_cons (by rfl) (fun K hK=>?_) allT_nil)
   go_simp
   go_at_call 37
   refine(hr2.out _).mono ?_
   rintro ee wn ⟨rfl,rfl⟩
   (try dsimp only)
   refine hK.out _ _ (by(exact keep_drew wr)) (fun hHeld3=>?_)
   clear hK K
   (try simp only [Act.put,sA,sB,sC])
   refine tt_tail (by decide +kernel) ?_
   simp only [List.drop_succ_cons,List.drop_zero]
   go_upto_region 10 with fail
   have bdd:Below wr.heap.size wr wr.drew.drew:=(keep_drew wr).trans (keep_drew wr.drew)
   have J:=hid (hJ.out.all bdd)
   have N0:=hid bdd.size
   clear kx ky hr1 hr2 c1 hJ bdd
   refine wp_region_tt (S:=fun W=>W.cell? ⟨pt,1,none⟩=some v) 11 (by kernel_rfl) (by kernel_rfl) J.out.c1 (fun hdr2=>?_)
   generalize wr.drew.drew=wc at *
   generalize wr.heap.size=n0 at *
   refine tk (i:=0) (h:=?_)
   (try simp only [Act.put,sA,sB,sC])
   refine tk (i:=1) (hy:=(Or.inl ⟨by rfl,by(intro W hSw;have hq:W.cell? ⟨pt,1,none⟩=some v:=hSw;go_simp <;> with_reducible rfl)⟩)) (h:=?_)
   (try simp only [Act.put,sA,sB,sC])
   refine tk (i:=2) (h:=?_)
   (try simp only [Act.put,sA,sB,sC])
   refine tk (i:=5) (h:=?_)
   (try simp only [Act.put,sA,sB,sC])
   refine tt_ready (rs:=[3]) (by decide +kernel) (allT_cons (by rfl) (fun K hK=>?_) allT_nil)
   have hnn:=hid (number10_any R 3 (hRi.out) (by decide) ⟨by decide,by decide⟩ wc)
   go_simp
   go_at_call 34
   refine hnn.out.mono ?_
   rintro ee wn ⟨paa,pac,pab,pad,rfl,VN,bn⟩
   have VZ:=hid (VN.mono (S':=fun q=>n0≤q) fun q _ hq=>Nat.le_trans N0.out hq.2)
   clear VN hnn
   have J:=hid (J.out.all bn)
   have N0:=hid (Nat.le_trans N0.out bn.size)
   (try have VA:=hid (VA.out.below bn (Nat.le_refl _)))
   (try have VB:=hid (VB.out.below bn (Nat.le_refl _)))
   (try have XA:=hid ((bn.block _ (Array.getElem?_eq_some_iff.1 XA.out).1).trans XA.out))
   (try have XR:=hid ((bn.block _ (Array.getElem?_eq_some_iff.1 XR.out).1).trans XR.out))
   clear bn
   obtain ⟨wc,rfl⟩:∃W,W=wn:=⟨_,rfl⟩
   (try dsimp only)
   have VA:=VZ
   clear VZ
   refine hK.out _ _ (by(exact J.out.c1)) (fun hHeld2=>?_)
   clear hK K
   (try simp only [Act.put,sA,sB,sC])
   refine tt_ready (rs:=[4,6]) (by decide +kernel) (allT_cons (by rfl) (fun K hK=>?_) (allT_cons (by rfl) (fun K hK=>?_) allT_nil))
   ·skip
    go_simp
    have bn:Below wc.heap.size wc (wc.alloc (.cells #[.int .i64 (numV R 3).sort,.bool (numV R 3).bool,.bool (numV R 3).num.neg,.slice paa (numV R 3).num.num.length pac,.slice pab (numV R 3).num.den.length pad,.int .i64 (numV R 3).el] 64)):=(Below.refl _ _).alloc (Nat.le_refl _) _
    have XN:=hid (heap_alloc_new wc (.cells #[.int .i64 (numV R 3).sort,.bool (numV R 3).bool,.bool (numV R 3).num.neg,.slice paa (numV R 3).num.num.length pac,.slice pab (numV R 3).num.den.length pad,.int .i64 (numV R 3).el] 64))
    have nP:=hid N0.out
    generalize hwn:wc.alloc (.cells #[.int .i64 (numV R 3).sort,.bool (numV R 3).bool,.bool (numV R 3).num.neg,.slice paa (numV R 3).num.num.length pac,.slice pab (numV R 3).num.den.length pad,.int .i64 (numV R 3).el] 64)=wn at *
    clear hwn
    have J:=hid (J.out.all bn)
    have N0:=hid (Nat.le_trans N0.out bn.size)
    (try have VA:=hid (VA.out.below bn (Nat.le_refl _)))
    (try have VB:=hid (VB.out.below bn (Nat.le_refl _)))
    (try have XA:=hid ((bn.block _ (Array.getElem?_eq_some_iff.1 XA.out).1).trans XA.out))
    (try have XR:=hid ((bn.block _ (Array.getElem?_eq_some_iff.1 XR.out).1).trans XR.out))
    clear bn
    generalize wc.heap.size=pA at *
    obtain ⟨wc,rfl⟩:∃W,W=wn:=⟨_,rfl⟩
    (try dsimp only)
    have XA:=XN
    clear XN
    have pAn:=nP
    clear nP
    refine hK.out _ _ (by(exact J.out.c1)) (fun hHeld3=>?_)
    clear hK K
    (try simp only [Act.put,sA,sB,sC])
    refine tt_ready (rs:=[6]) (by decide +kernel) (allT_cons (by rfl) (fun K hK=>?_) allT_nil)
    have hnn:=hid (number10_any V' 1 (hVi.out) (by decide) ⟨by decide,by decide⟩ wc)
    go_simp
    go_at_call 34
    refine hnn.out.mono ?_
    rintro ee wn ⟨pba,pbc,pbb,pbd,rfl,VN,bn⟩
    have VZ:=hid (VN.mono (S':=fun q=>n0≤q) fun q _ hq=>Nat.le_trans N0.out hq.2)
    clear VN hnn
    have J:=hid (J.out.all bn)
    have N0:=hid (Nat.le_trans N0.out bn.size)
    (try have VA:=hid (VA.out.below bn (Nat.le_refl _)))
    (try have VB:=hid (VB.out.below bn (Nat.le_refl _)))
    (try have XA:=hid ((bn.block _ (Array.getElem?_eq_some_iff.1 XA.out).1).trans XA.out))
    (try have XR:=hid ((bn.block _ (Array.getElem?_eq_some_iff.1 XR.out).1).trans XR.out))
    clear bn
    obtain ⟨wc,rfl⟩:∃W,W=wn:=⟨_,rfl⟩
    (try dsimp only)
    have VB:=VZ
    clear VZ
    refine hK.out _ _ (by(exact J.out.c1)) (fun hHeld4=>?_)
    clear hK K
    (try simp only [Act.put,sA,sB,sC])
    refine tk (i:=7) (h:=?_)
    (try simp only [Act.put,sA,sB,sC])
    refine tt_ready (rs:=[8]) (by decide +kernel) (allT_cons (by rfl) (fun K hK=>?_) allT_nil)
    go_simp
    have bn:Below wc.heap.size wc (wc.alloc (.cells #[.slice (some ⟨pA,0,none⟩) 1 1,.int .i64 (numV V' 1).sort,.bool (numV V' 1).bool,.bool (numV V' 1).num.neg,.slice pba (numV V' 1).num.num.length pbc,.slice pbb (numV V' 1).num.den.length pbd,.int .i64 (numV V' 1).el] 80)):=(Below.refl _ _).alloc (Nat.le_refl _) _
    have XN:=hid (heap_alloc_new wc (.cells #[.slice (some ⟨pA,0,none⟩) 1 1,.int .i64 (numV V' 1).sort,.bool (numV V' 1).bool,.bool (numV V' 1).num.neg,.slice pba (numV V' 1).num.num.length pbc,.slice pbb (numV V' 1).num.den.length pbd,.int .i64 (numV V' 1).el] 80))
    have nP:=hid N0.out
    generalize hwn:wc.alloc (.cells #[.slice (some ⟨pA,0,none⟩) 1 1,.int .i64 (numV V' 1).sort,.bool (numV V' 1).bool,.bool (numV V' 1).num.neg,.slice pba (numV V' 1).num.num.length pbc,.slice pbb (numV V' 1).num.den.length pbd,.int .i64 (numV V' 1).el] 80)=wn at *
    clear hwn
    have J:=hid (J.out.all bn)
    have N0:=hid (Nat.le_trans N0.out bn.size)
    (try have VA:=hid (VA.out.below bn (Nat.le_refl _)))
    (try have VB:=hid (VB.out.below bn (Nat.le_refl _)))
    (try have XA:=hid ((bn.block _ (Array.getElem?_eq_some_iff.1 XA.out).1).trans XA.out))
    (try have XR:=hid ((bn.block _ (Array.getElem?_eq_some_iff.1 XR.out).1).trans XR.out))
    clear bn
    generalize wc.heap.size=pR at *
    obtain ⟨wc,rfl⟩:∃W,W=wn:=⟨_,rfl⟩
    (try dsimp only)
    have XR:=XN
    clear XN
    have pRn:=nP
    clear nP
    refine hK.out _ _ (by(exact J.out.c1)) (fun hHeld5=>?_)
    clear hK K
    (try simp only [Act.put,sA,sB,sC])
    refine tt_ready (rs:=[9]) (by decide +kernel) (allT_cons (by rfl) (fun K hK=>?_) allT_nil)
    obtain ⟨css,oc,ol,oe⟩:=J.out.own
    have hxr:=tell_rd hvN.out hrow.out XA.out pAn.out VA.out VB.out
    have hsl:=hid (tellRows_len rows values k)
    refine step_append_C (by rfl) (.tmp 50) (.tmp 57) (by rfl) Tryz.underlying65 hi0 hi1 hi2 hi3 rfl (by decide) (by rfl) (by rfl) oc (Src.one (b:=pR) (news:=rowC (tellRow rows values k) (some ⟨pA,0,none⟩) 1 pba pbc pbb pbd) rfl (tell_cells hrow.out XR.out)) (repRow.one hxr) (by rw [hsl.out];unfold maxLen;omega) (by rw [hsl.out];omega) J.out.lo.2.2 ?_
    intro v' w4 ho hg hl
    obtain ⟨av,cv,rfl,_,_⟩:=ho.slice
    have JF:=hid (J.out.push oc ol oe hxr ho hg hl)
    have ptc:=J.out.blk
    have hpt4:=(hg.block pt (Array.getElem?_eq_some_iff.1 ptc).1 fun e=>by have:=(oc.lt pt e.symm).1;omega).trans ptc
    have g1:=cell_p hpt4 1
    have f1:=frz_p hpt4 1
    simp only [List.getElem?_toArray,List.getElem?_cons_succ,List.getElem?_cons_zero] at g1
    have hc4:w4.cell? ⟨pt,1,none⟩=some v:=g1
    clear oc ol oe hxr ho hg hl ptc hpt4
    refine hK.out _ _ (by(exact hc4)) (fun hHeld6=>?_)
    clear hK K
    (try simp only [Act.put,sA,sB,sC])
    refine tk (i:=10) (h:=?_)
    (try simp only [Act.put,sA,sB,sC])
    refine tt_tail (by decide +kernel) ?_
    simp only [List.drop_succ_cons,List.drop_zero]
    by_cases hq:R=q
    case neg=>
     have hqb2:(R == q)=false:=by simpa using hq
     have hW:=hid (show tellWant rows values q (k+1)=Wk from by rw [hW1.out,if_neg fun h=>hq h.1])
     go_wp2
     go_roundw
     case rel=>exact⟨k+1,_,by omega,by go_num,by rw [hW.out],JF.out⟩
     case measure=>first | (simp [intOf];done) | (simp [intOf];omega)
    case pos=>
     subst hq
     by_cases hw:Wk<0
     case neg=>
      have hW:=hid (show tellWant rows values R (k+1)=Wk from by rw [hW1.out,if_neg fun h=>hw h.2])
      go_wp2
      go_roundw
      case rel=>exact⟨k+1,_,by omega,by go_num,by rw [hW.out],JF.out⟩
      case measure=>first | (simp [intOf];done) | (simp [intOf];omega)
     case pos=>
      have hW:=hid (show tellWant rows values R (k+1)=V' from by rw [hW1.out,if_pos ⟨rfl,hw⟩])
      go_wp2
      go_roundw
      case rel=>exact⟨k+1,_,by omega,by go_num,by rw [hW.out],JF.out⟩
      case measure=>first | (simp [intOf];done) | (simp [intOf];omega)
   ·skip
    have hnn:=hid (number10_any V' 1 (hVi.out) (by decide) ⟨by decide,by decide⟩ wc)
    go_simp
    go_at_call 34
    refine hnn.out.mono ?_
    rintro ee wn ⟨pba,pbc,pbb,pbd,rfl,VN,bn⟩
    have VZ:=hid (VN.mono (S':=fun q=>n0≤q) fun q _ hq=>Nat.le_trans N0.out hq.2)
    clear VN hnn
    have J:=hid (J.out.all bn)
    have N0:=hid (Nat.le_trans N0.out bn.size)
    (try have VA:=hid (VA.out.below bn (Nat.le_refl _)))
    (try have VB:=hid (VB.out.below bn (Nat.le_refl _)))
    (try have XA:=hid ((bn.block _ (Array.getElem?_eq_some_iff.1 XA.out).1).trans XA.out))
    (try have XR:=hid ((bn.block _ (Array.getElem?_eq_some_iff.1 XR.out).1).trans XR.out))
    clear bn
    obtain ⟨wc,rfl⟩:∃W,W=wn:=⟨_,rfl⟩
    (try dsimp only)
    have VB:=VZ
    clear VZ
    refine hK.out _ _ (by(exact J.out.c1)) (fun hHeld3=>?_)
    clear hK K
    (try simp only [Act.put,sA,sB,sC])
    refine tt_ready (rs:=[4]) (by decide +kernel) (allT_cons (by rfl) (fun K hK=>?_) allT_nil)
    go_simp
    have bn:Below wc.heap.size wc (wc.alloc (.cells #[.int .i64 (numV R 3).sort,.bool (numV R 3).bool,.bool (numV R 3).num.neg,.slice paa (numV R 3).num.num.length pac,.slice pab (numV R 3).num.den.length pad,.int .i64 (numV R 3).el] 64)):=(Below.refl _ _).alloc (Nat.le_refl _) _
    have XN:=hid (heap_alloc_new wc (.cells #[.int .i64 (numV R 3).sort,.bool (numV R 3).bool,.bool (numV R 3).num.neg,.slice paa (numV R 3).num.num.length pac,.slice pab (numV R 3).num.den.length pad,.int .i64 (numV R 3).el] 64))
    have nP:=hid N0.out
    generalize hwn:wc.alloc (.cells #[.int .i64 (numV R 3).sort,.bool (numV R 3).bool,.bool (numV R 3).num.neg,.slice paa (numV R 3).num.num.length pac,.slice pab (numV R 3).num.den.length pad,.int .i64 (numV R 3).el] 64)=wn at *
    clear hwn
    have J:=hid (J.out.all bn)
    have N0:=hid (Nat.le_trans N0.out bn.size)
    (try have VA:=hid (VA.out.below bn (Nat.le_refl _)))
    (try have VB:=hid (VB.out.below bn (Nat.le_refl _)))
    (try have XA:=hid ((bn.block _ (Array.getElem?_eq_some_iff.1 XA.out).1).trans XA.out))
    (try have XR:=hid ((bn.block _ (Array.getElem?_eq_some_iff.1 XR.out).1).trans XR.out))
    clear bn
    generalize wc.heap.size=pA at *
    obtain ⟨wc,rfl⟩:∃W,W=wn:=⟨_,rfl⟩
    (try dsimp only)
    have XA:=XN
    clear XN
    have pAn:=nP
    clear nP
    refine hK.out _ _ (by(exact J.out.c1)) (fun hHeld4=>?_)
    clear hK K
    (try simp only [Act.put,sA,sB,sC])
    refine tk (i:=7) (h:=?_)
    (try simp only [Act.put,sA,sB,sC])
    refine tt_ready (rs:=[8]) (by decide +kernel) (allT_cons (by rfl) (fun K hK=>?_) allT_nil)
    go_simp
    have bn:Below wc.heap.size wc (wc.alloc (.cells #[.slice (some ⟨pA,0,none⟩) 1 1,.int .i64 (numV V' 1).sort,.bool (numV V' 1).bool,.bool (numV V' 1).num.neg,.slice pba (numV V' 1).num.num.length pbc,.slice pbb (numV V' 1).num.den.length pbd,.int .i64 (numV V' 1).el] 80)):=(Below.refl _ _).alloc (Nat.le_refl _) _
    have XN:=hid (heap_alloc_new wc (.cells #[.slice (some ⟨pA,0,none⟩) 1 1,.int .i64 (numV V' 1).sort,.bool (numV V' 1).bool,.bool (numV V' 1).num.neg,.slice pba (numV V' 1).num.num.length pbc,.slice pbb (numV V' 1).num.den.length pbd,.int .i64 (numV V' 1).el] 80))
    have nP:=hid N0.out
    generalize hwn:wc.alloc (.cells #[.slice (some ⟨pA,0,none⟩) 1 1,.int .i64 (numV V' 1).sort,.bool (numV V' 1).bool,.bool (numV V' 1).num.neg,.slice pba (numV V' 1).num.num.length pbc,.slice pbb (numV V' 1).num.den.length pbd,.int .i64 (numV V' 1).el] 80)=wn at *
    clear hwn
    have J:=hid (J.out.all bn)
    have N0:=hid (Nat.le_trans N0.out bn.size)
    (try have VA:=hid (VA.out.below bn (Nat.le_refl _)))
    (try have VB:=hid (VB.out.below bn (Nat.le_refl _)))
    (try have XA:=hid ((bn.block _ (Array.getElem?_eq_some_iff.1 XA.out).1).trans XA.out))
    (try have XR:=hid ((bn.block _ (Array.getElem?_eq_some_iff.1 XR.out).1).trans XR.out))
    clear bn
    generalize wc.heap.size=pR at *
    obtain ⟨wc,rfl⟩:∃W,W=wn:=⟨_,rfl⟩
    (try dsimp only)
    have XR:=XN
    clear XN
    have pRn:=nP
    clear nP
    refine hK.out _ _ (by(exact J.out.c1)) (fun hHeld5=>?_)
    clear hK K
    (try simp only [Act.put,sA,sB,sC])
    refine tt_ready (rs:=[9]) (by decide +kernel) (allT_cons (by rfl) (fun K hK=>?_) allT_nil)
    obtain ⟨css,oc,ol,oe⟩:=J.out.own
    have hxr:=tell_rd hvN.out hrow.out XA.out pAn.out VA.out VB.out
    have hsl:=hid (tellRows_len rows values k)
    refine step_append_C (by rfl) (.tmp 50) (.tmp 57) (by rfl) Tryz.underlying65 hi0 hi1 hi2 hi3 rfl (by decide) (by rfl) (by rfl) oc (Src.one (b:=pR) (news:=rowC (tellRow rows values k) (some ⟨pA,0,none⟩) 1 pba pbc pbb pbd) rfl (tell_cells hrow.out XR.out)) (repRow.one hxr) (by rw [hsl.out];unfold maxLen;omega) (by rw [hsl.out];omega) J.out.lo.2.2 ?_
    intro v' w4 ho hg hl
    obtain ⟨av,cv,rfl,_,_⟩:=ho.slice
    have JF:=hid (J.out.push oc ol oe hxr ho hg hl)
    have ptc:=J.out.blk
    have hpt4:=(hg.block pt (Array.getElem?_eq_some_iff.1 ptc).1 fun e=>by have:=(oc.lt pt e.symm).1;omega).trans ptc
    have g1:=cell_p hpt4 1
    have f1:=frz_p hpt4 1
    simp only [List.getElem?_toArray,List.getElem?_cons_succ,List.getElem?_cons_zero] at g1
    have hc4:w4.cell? ⟨pt,1,none⟩=some v:=g1
    clear oc ol oe hxr ho hg hl ptc hpt4
    refine hK.out _ _ (by(exact hc4)) (fun hHeld6=>?_)
    clear hK K
    (try simp only [Act.put,sA,sB,sC])
    refine tk (i:=10) (h:=?_)
    (try simp only [Act.put,sA,sB,sC])
    refine tt_tail (by decide +kernel) ?_
    simp only [List.drop_succ_cons,List.drop_zero]
    by_cases hq:R=q
    case neg=>
     have hqb2:(R == q)=false:=by simpa using hq
     have hW:=hid (show tellWant rows values q (k+1)=Wk from by rw [hW1.out,if_neg fun h=>hq h.1])
     go_wp2
     go_roundw
     case rel=>exact⟨k+1,_,by omega,by go_num,by rw [hW.out],JF.out⟩
     case measure=>first | (simp [intOf];done) | (simp [intOf];omega)
    case pos=>
     subst hq
     by_cases hw:Wk<0
     case neg=>
      have hW:=hid (show tellWant rows values R (k+1)=Wk from by rw [hW1.out,if_neg fun h=>hw h.2])
      go_wp2
      go_roundw
      case rel=>exact⟨k+1,_,by omega,by go_num,by rw [hW.out],JF.out⟩
      case measure=>first | (simp [intOf];done) | (simp [intOf];omega)
     case pos=>
      have hW:=hid (show tellWant rows values R (k+1)=V' from by rw [hW1.out,if_pos ⟨rfl,hw⟩])
      go_wp2
      go_roundw
      case rel=>exact⟨k+1,_,by omega,by go_num,by rw [hW.out],JF.out⟩
      case measure=>first | (simp [intOf];done) | (simp [intOf];omega)
  case neg=>
   obtain rfl:k=n:=by omega
   obtain ⟨ra,rc,rfl,hTT⟩:=hJ.out.tb
   have hki:¬(k:Int)<k:=by omega
   have blk2:wr.heap[pt]? = some (.cells (tbC (tellT rows values k) ra rc am cm bm dm).toArray 67 (0,0)):=hJ.out.blk
   have ha1:=hid (tell_1 rows values q k)
   have ha2:=hid (tell_2 rows values k)
   have ha3:=hid (tell_3 rows values k q)
   have hts:=hid (tell_small rows values h12)
   have hqi:=hid (show okI q from by have:=hqb.out;unfold okI;omega)
   have hwb:=want_bd rows values q k
   have hWi:=hid (show okI (tellWant rows values q k) from by unfold okI;omega)
   have hws:=hid (show smallV (numV (tellWant rows values q k) 1) from small_numV (by decide) ⟨by omega,by omega⟩ (by decide))
   have hB:=hid hJ.out.b
   clear hwb hJ
   generalize tellWant rows values q k=Wk at *
   generalize tellT rows values k=t at *
   unfold tbC valC at blk2
   have u0:=cell_p blk2 0
   have u1:=cell_p blk2 1
   have u2:=cell_p blk2 2
   have u3:=cell_p blk2 3
   have u4:=cell_p blk2 4
   have u5:=cell_p blk2 5
   have u6:=cell_p blk2 6
   have u7:=cell_p blk2 7
   simp only [List.getElem?_toArray,List.getElem?_cons_succ,List.getElem?_cons_zero] at u0 u1 u2 u3 u4 u5 u6 u7
   clear blk2
   go_upto_region 13 with fail
   refine wp_region_tt (S:=fun W=>Below wr.heap.size wr W) 26 (by kernel_rfl) (by kernel_rfl) (keep_drew wr) (fun hdr=>?_)
   have BB:=hid (keep_drew wr)
   have TT:=hid (TbS.below hTT (keep_drew wr) (Nat.le_refl _))
   clear hTT
   generalize wr.drew=wc at *
   refine tk (i:=0) (hy:=(Or.inl ⟨by rfl,by(intro W hSw;have hq0:=keep_cell hSw u0;have hq1:=keep_cell hSw u1;have hq2:=keep_cell hSw u2;have hq3:=keep_cell hSw u3;have hq4:=keep_cell hSw u4;have hq5:=keep_cell hSw u5;have hq6:=keep_cell hSw u6;have hq7:=keep_cell hSw u7;go_simp <;> with_reducible rfl)⟩)) (h:=?_)
   (try simp only [Act.put,sA,sB,sC])
   refine tk (i:=1) (h:=?_)
   (try simp only [Act.put,sA,sB,sC])
   refine tk (i:=5) (h:=?_)
   (try simp only [Act.put,sA,sB,sC])
   refine tt_ready (rs:=[2]) (by decide +kernel) (allT_cons (by rfl) (fun K hK=>?_) allT_nil)
   have hnn:=hid (number10_any q 3 (hqi.out) (by decide) ⟨by decide,by decide⟩ wc)
   go_simp
   go_at_call 34
   refine hnn.out.mono ?_
   rintro ee wn ⟨paa,pac,pab,pad,rfl,VN,bn⟩
   have VZ:=hid VN.top
   clear VN hnn
   have BB:=hid (BB.out.trans (bn.mono BB.out.size))
   (try have TT:=hid (TbS.below TT.out bn (Nat.le_refl _)))
   (try have VA:=hid (VA.out.below bn (Nat.le_refl _)))
   (try have VB:=hid (VB.out.below bn (Nat.le_refl _)))
   (try have VC:=hid (VC.out.below bn (Nat.le_refl _)))
   (try have XB:=hid ((bn.block _ (Array.getElem?_eq_some_iff.1 XB.out).1).trans XB.out))
   clear bn
   obtain ⟨wc,rfl⟩:∃W,W=wn:=⟨_,rfl⟩
   (try dsimp only)
   have VA:=VZ
   clear VZ
   refine hK.out _ _ (by(exact BB.out)) (fun hHeld2=>?_)
   clear hK K
   (try simp only [Act.put,sA,sB,sC])
   refine tt_ready (rs:=[3]) (by decide +kernel) (allT_cons (by rfl) (fun K hK=>?_) allT_nil)
   go_simp
   have bn:Below wc.heap.size wc (wc.alloc (.cells #[.int .i64 (numV q 3).sort,.bool (numV q 3).bool,.bool (numV q 3).num.neg,.slice paa (numV q 3).num.num.length pac,.slice pab (numV q 3).num.den.length pad,.int .i64 (numV q 3).el] 64)):=(Below.refl _ _).alloc (Nat.le_refl _) _
   have XN:=hid (heap_alloc_new wc (.cells #[.int .i64 (numV q 3).sort,.bool (numV q 3).bool,.bool (numV q 3).num.neg,.slice paa (numV q 3).num.num.length pac,.slice pab (numV q 3).num.den.length pad,.int .i64 (numV q 3).el] 64))
   generalize hwn:wc.alloc (.cells #[.int .i64 (numV q 3).sort,.bool (numV q 3).bool,.bool (numV q 3).num.neg,.slice paa (numV q 3).num.num.length pac,.slice pab (numV q 3).num.den.length pad,.int .i64 (numV q 3).el] 64)=wn at *
   clear hwn
   have BB:=hid (BB.out.trans (bn.mono BB.out.size))
   (try have TT:=hid (TbS.below TT.out bn (Nat.le_refl _)))
   (try have VA:=hid (VA.out.below bn (Nat.le_refl _)))
   (try have VB:=hid (VB.out.below bn (Nat.le_refl _)))
   (try have VC:=hid (VC.out.below bn (Nat.le_refl _)))
   (try have XB:=hid ((bn.block _ (Array.getElem?_eq_some_iff.1 XB.out).1).trans XB.out))
   clear bn
   generalize wc.heap.size=pA at *
   obtain ⟨wc,rfl⟩:∃W,W=wn:=⟨_,rfl⟩
   (try dsimp only)
   have XB:=XN
   clear XN
   refine hK.out _ _ (by(exact BB.out)) (fun hHeld3=>?_)
   clear hK K
   (try simp only [Act.put,sA,sB,sC])
   refine tt_ready (rs:=[4]) (by decide +kernel) (allT_cons (by rfl) (fun K hK=>?_) allT_nil)
   have hap:=mapply_any t ra rc am cm bm dm (some ⟨pA,0,none⟩) 1 1 [numV q 3] wc TT.out (one_V XB.out VA.out) hts.out (by decide)
   rw [ha1.out] at hap
   have hap':=hid hap
   clear hap
   go_simp
   go_at_call 38
   refine hap'.out.mono ?_
   rintro ee wn ⟨xaa,xac,xab,xad,rfl,VN,bn⟩
   have VZ:=hid VN.top
   clear VN hap'
   have BB:=hid (BB.out.trans (bn.mono BB.out.size))
   (try have TT:=hid (TbS.below TT.out bn (Nat.le_refl _)))
   (try have VA:=hid (VA.out.below bn (Nat.le_refl _)))
   (try have VB:=hid (VB.out.below bn (Nat.le_refl _)))
   (try have VC:=hid (VC.out.below bn (Nat.le_refl _)))
   (try have XB:=hid ((bn.block _ (Array.getElem?_eq_some_iff.1 XB.out).1).trans XB.out))
   clear bn
   obtain ⟨wc,rfl⟩:∃W,W=wn:=⟨_,rfl⟩
   (try dsimp only)
   have VC:=VZ
   clear VZ
   refine hK.out _ _ (by(exact BB.out)) (fun hHeld4=>?_)
   clear hK K
   (try simp only [Act.put,sA,sB,sC])
   refine tt_ready (rs:=[6]) (by decide +kernel) (allT_cons (by rfl) (fun K hK=>?_) allT_nil)
   have hnn:=hid (number10_any Wk 1 (hWi.out) (by decide) ⟨by decide,by decide⟩ wc)
   go_simp
   go_at_call 34
   refine hnn.out.mono ?_
   rintro ee wn ⟨pba,pbc,pbb,pbd,rfl,VN,bn⟩
   have VZ:=hid VN.top
   clear VN hnn
   have BB:=hid (BB.out.trans (bn.mono BB.out.size))
   (try have TT:=hid (TbS.below TT.out bn (Nat.le_refl _)))
   (try have VA:=hid (VA.out.below bn (Nat.le_refl _)))
   (try have VB:=hid (VB.out.below bn (Nat.le_refl _)))
   (try have VC:=hid (VC.out.below bn (Nat.le_refl _)))
   (try have XB:=hid ((bn.block _ (Array.getElem?_eq_some_iff.1 XB.out).1).trans XB.out))
   clear bn
   obtain ⟨wc,rfl⟩:∃W,W=wn:=⟨_,rfl⟩
   (try dsimp only)
   have VB:=VZ
   clear VZ
   refine hK.out _ _ (by(exact BB.out)) (fun hHeld5=>?_)
   clear hK K
   (try simp only [Act.put,sA,sB,sC])
   refine tt_ready (rs:=[7]) (by decide +kernel) (allT_cons (by rfl) (fun K hK=>?_) allT_nil)
   have hss:=same10_any (numV Wk 1) (numV Wk 1) xaa xab pba pbb xac xad pbc pbd wc VC.out VB.out hws.out hws.out
   rw [fullV_refl] at hss
   have hs':=hid hss
   clear hss
   go_simp
   go_at_call 36
   refine hs'.out.mono ?_
   rintro ee wn ⟨rfl,bn⟩
   clear hs' VC VB
   have BB:=hid (BB.out.trans (bn.mono BB.out.size))
   (try have TT:=hid (TbS.below TT.out bn (Nat.le_refl _)))
   (try have VA:=hid (VA.out.below bn (Nat.le_refl _)))
   (try have VB:=hid (VB.out.below bn (Nat.le_refl _)))
   (try have VC:=hid (VC.out.below bn (Nat.le_refl _)))
   (try have XB:=hid ((bn.block _ (Array.getElem?_eq_some_iff.1 XB.out).1).trans XB.out))
   clear bn
   obtain ⟨wc,rfl⟩:∃W,W=wn:=⟨_,rfl⟩
   (try dsimp only)
   refine hK.out _ _ (by(exact BB.out)) (fun hHeld6=>?_)
   clear hK K
   (try simp only [Act.put,sA,sB,sC])
   refine tk (i:=8) (h:=?_)
   (try simp only [Act.put,sA,sB,sC])
   refine tk (i:=9) (hy:=(by first | exact Or.inl ⟨by rfl,by(intro W hSw;have hq0:=keep_cell hSw u0;have hq1:=keep_cell hSw u1;have hq2:=keep_cell hSw u2;have hq3:=keep_cell hSw u3;have hq4:=keep_cell hSw u4;have hq5:=keep_cell hSw u5;have hq6:=keep_cell hSw u6;have hq7:=keep_cell hSw u7;go_simp <;> with_reducible rfl)⟩ | exact Or.inr ⟨by rfl,rfl⟩)) (h:=?_)
   (try simp only [Act.put,sA,sB,sC])
   refine tt_ready (rs:=[10]) (by decide +kernel) (allT_cons (by rfl) (fun K hK=>?_) allT_nil)
   have hap:=mapply_any t ra rc am cm bm dm none 0 0 [] wc TT.out (SlR.nil _ (fun _=>True) _ _) hts.out (by decide)
   rw [ha2.out] at hap
   have hap':=hid hap
   clear hap
   go_simp
   go_at_call 38
   refine hap'.out.mono ?_
   rintro ee wn ⟨xba,xbc,xbb,xbd,rfl,VN,bn⟩
   have VZ:=hid VN.top
   clear VN hap'
   have BB:=hid (BB.out.trans (bn.mono BB.out.size))
   (try have TT:=hid (TbS.below TT.out bn (Nat.le_refl _)))
   (try have VA:=hid (VA.out.below bn (Nat.le_refl _)))
   (try have VB:=hid (VB.out.below bn (Nat.le_refl _)))
   (try have VC:=hid (VC.out.below bn (Nat.le_refl _)))
   (try have XB:=hid ((bn.block _ (Array.getElem?_eq_some_iff.1 XB.out).1).trans XB.out))
   clear bn
   obtain ⟨wc,rfl⟩:∃W,W=wn:=⟨_,rfl⟩
   (try dsimp only)
   have VC:=VZ
   clear VZ
   refine hK.out _ _ (by(exact BB.out)) (fun hHeld7=>?_)
   clear hK K
   (try simp only [Act.put,sA,sB,sC])
   refine tt_ready (rs:=[11]) (by decide +kernel) (allT_cons (by rfl) (fun K hK=>?_) allT_nil)
   have hnn:=hid (number10_any (-1) 1 (⟨by decide,by decide⟩) (by decide) ⟨by decide,by decide⟩ wc)
   go_simp
   go_at_call 34
   refine hnn.out.mono ?_
   rintro ee wn ⟨pca,pcc,pcb,pcd,rfl,VN,bn⟩
   have VZ:=hid VN.top
   clear VN hnn
   have BB:=hid (BB.out.trans (bn.mono BB.out.size))
   (try have TT:=hid (TbS.below TT.out bn (Nat.le_refl _)))
   (try have VA:=hid (VA.out.below bn (Nat.le_refl _)))
   (try have VB:=hid (VB.out.below bn (Nat.le_refl _)))
   (try have VC:=hid (VC.out.below bn (Nat.le_refl _)))
   (try have XB:=hid ((bn.block _ (Array.getElem?_eq_some_iff.1 XB.out).1).trans XB.out))
   clear bn
   obtain ⟨wc,rfl⟩:∃W,W=wn:=⟨_,rfl⟩
   (try dsimp only)
   have VB:=VZ
   clear VZ
   refine hK.out _ _ (by(exact BB.out)) (fun hHeld8=>?_)
   clear hK K
   (try simp only [Act.put,sA,sB,sC])
   refine tt_ready (rs:=[12]) (by decide +kernel) (allT_cons (by rfl) (fun K hK=>?_) allT_nil)
   have hss:=same10_any (numV (-1) 1) (numV (-1) 1) xba xbb pca pcb xbc xbd pcc pcd wc VC.out VB.out (small_numV (by decide) (by decide) (by decide)) (small_numV (by decide) (by decide) (by decide))
   rw [fullV_refl] at hss
   have hs':=hid hss
   clear hss
   go_simp
   go_at_call 36
   refine hs'.out.mono ?_
   rintro ee wn ⟨rfl,bn⟩
   clear hs' VC VB
   have BB:=hid (BB.out.trans (bn.mono BB.out.size))
   (try have TT:=hid (TbS.below TT.out bn (Nat.le_refl _)))
   (try have VA:=hid (VA.out.below bn (Nat.le_refl _)))
   (try have VB:=hid (VB.out.below bn (Nat.le_refl _)))
   (try have VC:=hid (VC.out.below bn (Nat.le_refl _)))
   (try have XB:=hid ((bn.block _ (Array.getElem?_eq_some_iff.1 XB.out).1).trans XB.out))
   clear bn
   obtain ⟨wc,rfl⟩:∃W,W=wn:=⟨_,rfl⟩
   (try dsimp only)
   refine hK.out _ _ (by(exact BB.out)) (fun hHeld9=>?_)
   clear hK K
   (try simp only [Act.put,sA,sB,sC])
   refine tk (i:=13) (h:=?_)
   (try simp only [Act.put,sA,sB,sC])
   refine tk (i:=14) (h:=?_)
   (try simp only [Act.put,sA,sB,sC])
   refine tk (i:=15) (hy:=(by first | exact Or.inl ⟨by rfl,by(intro W hSw;have hq0:=keep_cell hSw u0;have hq1:=keep_cell hSw u1;have hq2:=keep_cell hSw u2;have hq3:=keep_cell hSw u3;have hq4:=keep_cell hSw u4;have hq5:=keep_cell hSw u5;have hq6:=keep_cell hSw u6;have hq7:=keep_cell hSw u7;go_simp <;> with_reducible rfl)⟩ | exact Or.inr ⟨by rfl,rfl⟩)) (h:=?_)
   (try simp only [Act.put,sA,sB,sC])
   refine tk (i:=16) (h:=?_)
   (try simp only [Act.put,sA,sB,sC])
   refine tk (i:=17) (h:=?_)
   (try simp only [Act.put,sA,sB,sC])
   refine tt_ready (rs:=[18]) (by decide +kernel) (allT_cons (by rfl) (fun K hK=>?_) allT_nil)
   go_simp
   have bn:Below wc.heap.size wc (wc.alloc (.cells #[.int .i64 2,.bool false,.bool false,.slice none 0 0,.slice none 0 0,.int .i64 q] 64)):=(Below.refl _ _).alloc (Nat.le_refl _) _
   have XN:=hid (heap_alloc_new wc (.cells #[.int .i64 2,.bool false,.bool false,.slice none 0 0,.slice none 0 0,.int .i64 q] 64))
   generalize hwn:wc.alloc (.cells #[.int .i64 2,.bool false,.bool false,.slice none 0 0,.slice none 0 0,.int .i64 q] 64)=wn at *
   clear hwn
   have BB:=hid (BB.out.trans (bn.mono BB.out.size))
   (try have TT:=hid (TbS.below TT.out bn (Nat.le_refl _)))
   (try have VA:=hid (VA.out.below bn (Nat.le_refl _)))
   (try have VB:=hid (VB.out.below bn (Nat.le_refl _)))
   (try have VC:=hid (VC.out.below bn (Nat.le_refl _)))
   (try have XB:=hid ((bn.block _ (Array.getElem?_eq_some_iff.1 XB.out).1).trans XB.out))
   clear bn
   generalize wc.heap.size=pE at *
   obtain ⟨wc,rfl⟩:∃W,W=wn:=⟨_,rfl⟩
   (try dsimp only)
   have XE:=XN
   clear XN
   refine hK.out _ _ (by(exact BB.out)) (fun hHeld10=>?_)
   clear hK K
   (try simp only [Act.put,sA,sB,sC])
   refine tt_ready (rs:=[19]) (by decide +kernel) (allT_cons (by rfl) (fun K hK=>?_) allT_nil)
   have hap:=mapply_any t ra rc am cm bm dm (some ⟨pE,0,none⟩) 1 1 [⟨2,false,noRat,q⟩] wc TT.out (one_V (v:=⟨2,false,noRat,q⟩) (a:=none) (c:=0) (b:=none) (d:=0) XE.out (el_S hqi.out)) hts.out (by decide)
   rw [ha3.out] at hap
   have hap':=hid hap
   clear hap
   go_simp
   go_at_call 38
   refine hap'.out.mono ?_
   rintro ee wn ⟨xca,xcc,xcb,xcd,rfl,VN,bn⟩
   have VZ:=hid VN.top
   clear VN hap'
   have BB:=hid (BB.out.trans (bn.mono BB.out.size))
   (try have TT:=hid (TbS.below TT.out bn (Nat.le_refl _)))
   (try have VA:=hid (VA.out.below bn (Nat.le_refl _)))
   (try have VB:=hid (VB.out.below bn (Nat.le_refl _)))
   (try have VC:=hid (VC.out.below bn (Nat.le_refl _)))
   (try have XB:=hid ((bn.block _ (Array.getElem?_eq_some_iff.1 XB.out).1).trans XB.out))
   clear bn
   obtain ⟨wc,rfl⟩:∃W,W=wn:=⟨_,rfl⟩
   (try dsimp only)
   have VC:=VZ
   clear VZ
   refine hK.out _ _ (by(exact BB.out)) (fun hHeld11=>?_)
   clear hK K
   (try simp only [Act.put,sA,sB,sC])
   refine tt_ready (rs:=[20]) (by decide +kernel) (allT_cons (by rfl) (fun K hK=>?_) allT_nil)
   have hnn:=hid (number10_any (-1) 1 (⟨by decide,by decide⟩) (by decide) ⟨by decide,by decide⟩ wc)
   go_simp
   go_at_call 34
   refine hnn.out.mono ?_
   rintro ee wn ⟨pda,pdc,pdb,pdd,rfl,VN,bn⟩
   have VZ:=hid VN.top
   clear VN hnn
   have BB:=hid (BB.out.trans (bn.mono BB.out.size))
   (try have TT:=hid (TbS.below TT.out bn (Nat.le_refl _)))
   (try have VA:=hid (VA.out.below bn (Nat.le_refl _)))
   (try have VB:=hid (VB.out.below bn (Nat.le_refl _)))
   (try have VC:=hid (VC.out.below bn (Nat.le_refl _)))
   (try have XB:=hid ((bn.block _ (Array.getElem?_eq_some_iff.1 XB.out).1).trans XB.out))
   clear bn
   obtain ⟨wc,rfl⟩:∃W,W=wn:=⟨_,rfl⟩
   (try dsimp only)
   have VB:=VZ
   clear VZ
   refine hK.out _ _ (by(exact BB.out)) (fun hHeld12=>?_)
   clear hK K
   (try simp only [Act.put,sA,sB,sC])
   refine tt_ready (rs:=[21]) (by decide +kernel) (allT_cons (by rfl) (fun K hK=>?_) allT_nil)
   have hss:=same10_any (numV (-1) 1) (numV (-1) 1) xca xcb pda pdb xcc xcd pdc pdd wc VC.out VB.out (small_numV (by decide) (by decide) (by decide)) (small_numV (by decide) (by decide) (by decide))
   rw [fullV_refl] at hss
   have hs':=hid hss
   clear hss
   go_simp
   go_at_call 36
   refine hs'.out.mono ?_
   rintro ee wn ⟨rfl,bn⟩
   clear hs' VC VB
   have BB:=hid (BB.out.trans (bn.mono BB.out.size))
   (try have TT:=hid (TbS.below TT.out bn (Nat.le_refl _)))
   (try have VA:=hid (VA.out.below bn (Nat.le_refl _)))
   (try have VB:=hid (VB.out.below bn (Nat.le_refl _)))
   (try have VC:=hid (VC.out.below bn (Nat.le_refl _)))
   (try have XB:=hid ((bn.block _ (Array.getElem?_eq_some_iff.1 XB.out).1).trans XB.out))
   clear bn
   obtain ⟨wc,rfl⟩:∃W,W=wn:=⟨_,rfl⟩
   (try dsimp only)
   refine hK.out _ _ (by(exact BB.out)) (fun hHeld13=>?_)
   clear hK K
   (try simp only [Act.put,sA,sB,sC])
   refine tk (i:=22) (h:=?_)
   (try simp only [Act.put,sA,sB,sC])
   refine tk (i:=23) (h:=?_)
   (try simp only [Act.put,sA,sB,sC])
   refine tt_ready (rs:=[24]) (by decide +kernel) (allT_cons (by rfl) (fun K hK=>?_) allT_nil)
   have haa:=hid (haw.out wc (hB.out.trans (BB.out.mono hB.out.size)))
   go_simp
   go_at_call 31
   refine haa.out.mono ?_
   rintro ee wn ⟨rfl,bn⟩
   clear haa
   have BB:=hid (BB.out.trans (bn.mono BB.out.size))
   (try have TT:=hid (TbS.below TT.out bn (Nat.le_refl _)))
   (try have VA:=hid (VA.out.below bn (Nat.le_refl _)))
   (try have VB:=hid (VB.out.below bn (Nat.le_refl _)))
   (try have VC:=hid (VC.out.below bn (Nat.le_refl _)))
   (try have XB:=hid ((bn.block _ (Array.getElem?_eq_some_iff.1 XB.out).1).trans XB.out))
   clear bn
   obtain ⟨wc,rfl⟩:∃W,W=wn:=⟨_,rfl⟩
   (try dsimp only)
   refine hK.out _ _ (by(exact BB.out)) (fun hHeld14=>?_)
   clear hK K
   (try simp only [Act.put,sA,sB,sC])
   refine tk (i:=25) (h:=?_)
   (try simp only [Act.put,sA,sB,sC])
   refine tt_tail (by decide +kernel) ?_
   simp only [List.drop_succ_cons,List.drop_zero]
   go_wp2
   go_ret
   exact⟨rfl,hB.out.trans (BB.out.mono hB.out.size)⟩
end Go.Proofs.YtgoojkiccdjplaaGreatDoor
namespace Go.Proofs.YtgoojkiccdjplaaGreatDoor
open Go.RowKit Go.Lib
abbrev seatLaid:List (String × DataW Unit):=[("math/bits.deBruijn32tab",Rows.laid_math_bits_deBruijn32tab),("math/bits.deBruijn64tab",Rows.laid_math_bits_deBruijn64tab),("internal/strconv.uint64pow10",Rows.laid_internal_strconv_uint64pow10),("unicode/utf8.acceptRanges",Rows.laid_unicode_utf8_acceptRanges),("unicode.White_Space",Rows.laid_unicode_White_Space),("strings.asciiSpace",Rows.laid_strings_asciiSpace),("strconv.isGraphic",Rows.laid_strconv_isGraphic),("strconv.isNotPrint16",Rows.laid_strconv_isNotPrint16),("strconv.isNotPrint32",Rows.laid_strconv_isNotPrint32),("strconv.isPrint16",Rows.laid_strconv_isPrint16),("strconv.isPrint32",Rows.laid_strconv_isPrint32),("unicode/utf8.first",Rows.laid_unicode_utf8_first)]
theorem laid_tab:(Rows.laid_strings_asciiSpace:DataW Unit)=tabData .u8 asciiSpaceTab:=by kernel_rfl
theorem laid_pow:(Rows.laid_internal_strconv_uint64pow10:DataW Unit)=tabData .u64 Lib.pow10Tab:=by kernel_rfl
theorem laid_acc:(Rows.laid_unicode_utf8_acceptRanges:DataW Unit)=acceptData:=by kernel_rfl
theorem g_ascii:Tryz.prog.globalNamed "strings.asciiSpace" = some 0:=by kernel_rfl
theorem t_ascii:∃t e,(Tryz.prog.globals[0]?).map (·.type)=some t∧Tryz.prog.underlying t=some (.array 256 e)∧Tryz.prog.underlying e=some (.int .u8)∧Tryz.prog.cellsOf e=1∧Tryz.prog.cellsOf t=256:=
 ⟨250,5,by kernel_rfl,by kernel_rfl,by kernel_rfl,by kernel_rfl,by kernel_rfl⟩
theorem t_pow:∃t e,(Tryz.prog.globals[2]?).map (·.type)=some t∧Tryz.prog.underlying t=some (.array 20 e)∧Tryz.prog.underlying e=some (.int .u64)∧Tryz.prog.cellsOf e=1∧Tryz.prog.cellsOf t=20:=
 ⟨285,177,by kernel_rfl,by kernel_rfl,by kernel_rfl,by kernel_rfl,by kernel_rfl⟩
theorem env_of_laid {W:World} (h:laidMetH Tryz.prog seatLaid W):EnvT W:=by
 rw [MakeChecks.laidMetH_plain _ _ _ (by kernel_rfl)] at h
 refine⟨?_,?_,?_,?_⟩
 ·obtain ⟨g',t',cs,fuel,p,hg',ht',hvar,hd⟩:=laidMet.reads h (n:="strings.asciiSpace") (d:=Rows.laid_strings_asciiSpace) (by simp)
  obtain ⟨t,e,h1,h2,h3,h4,h5⟩:=t_ascii
  obtain rfl:=Option.some.inj (g_ascii.symm.trans hg')
  obtain rfl:=Option.some.inj (h1.symm.trans ht')
  rw [laid_tab] at hd
  unfold Env Lib.TabIs
  rw [hvar,←cells_of_tab h2 h3 h4 h5 hd]
 ·obtain ⟨g',t',cs,fuel,p,hg',ht',hvar,hd⟩:=laidMet.reads h (n:="internal/strconv.uint64pow10") (d:=Rows.laid_internal_strconv_uint64pow10) (by simp)
  obtain ⟨t,e,h1,h2,h3,h4,h5⟩:=t_pow
  obtain rfl:=Option.some.inj (pow_glob.symm.trans hg')
  obtain rfl:=Option.some.inj (h1.symm.trans ht')
  rw [laid_pow] at hd
  unfold Lib.TabIs
  rw [hvar,←cells_of_tab h2 h3 h4 h5 hd]
 ·exact printTabs_of_reads (ρ:=Tryz.lays339_ren) { Tryz.lays339 with } ⟨by kernel_rfl,by kernel_rfl,by kernel_rfl,by kernel_rfl,by kernel_rfl,by kernel_rfl,by kernel_rfl,by kernel_rfl,by kernel_rfl,by kernel_rfl⟩
   (Pinned.isPrint16_eq ▸ laidMet.reads h (n:="strconv.isPrint16") (d:=Pinned.isPrint16) (by simp [Rows.laid_strconv_isPrint16]))
   (Pinned.isNotPrint16_eq ▸ laidMet.reads h (n:="strconv.isNotPrint16") (d:=Pinned.isNotPrint16) (by simp [Rows.laid_strconv_isNotPrint16]))
   (Pinned.isPrint32_eq ▸ laidMet.reads h (n:="strconv.isPrint32") (d:=Pinned.isPrint32) (by simp [Rows.laid_strconv_isPrint32]))
   (Pinned.isNotPrint32_eq ▸ laidMet.reads h (n:="strconv.isNotPrint32") (d:=Pinned.isNotPrint32) (by simp [Rows.laid_strconv_isNotPrint32]))
 ·exact utf8Tabs_of_reads (ρ:=Tryz.lays260_ren) { Tryz.lays260 with } ⟨by kernel_rfl,by kernel_rfl,by kernel_rfl,by kernel_rfl,by kernel_rfl,by kernel_rfl,by kernel_rfl⟩
   (Pinned.utf8First_eq ▸ laidMet.reads h (n:="unicode/utf8.first") (d:=Pinned.utf8First) (by simp [Rows.laid_unicode_utf8_first]))
   (laid_acc ▸ laidMet.reads h (n:="unicode/utf8.acceptRanges") (d:=Rows.laid_unicode_utf8_acceptRanges) (by simp))
end Go.Proofs.YtgoojkiccdjplaaGreatDoor
namespace Go.Proofs.YtgoojkiccdjplaaGreatDoor
open Go.RowKit Go.Lib
theorem laid_shaped (os:Os) (args:Array Value):((World.laidAll Tryz.prog os seatLaid).forCall (fun _ _=>0) ⟨#[],args,[]⟩).Shaped Tryz.checked.prog:=World.shaped_of_ZipB (by kernel_rfl) (by kernel_rfl)
theorem laid_met (os:Os) (args:Array Value):laidMetH Tryz.prog seatLaid ((World.laidAll Tryz.prog os seatLaid).forCall (fun _ _=>0) ⟨#[],args,[]⟩).memory:=by
 rw [MakeChecks.laidMetH_plain _ _ _ (by kernel_rfl)];exact laidMet_laidAll _ (by kernel_rfl) (by kernel_rfl)
end Go.Proofs.YtgoojkiccdjplaaGreatDoor
