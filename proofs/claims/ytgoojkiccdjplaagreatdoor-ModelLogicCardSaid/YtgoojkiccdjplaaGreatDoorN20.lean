/-
  Parts of this claim's texts, one behind the other: EJ FD FS FT FE FF. No condition.
-/
import Derived.Test.YtgoojkiccdjplaaGreatDoorN18
import Derived.Test.YtgoojkiccdjplaaGreatDoorN19
import Derived.Test.YtgoojkiccdjplaaGreatDoorN16
import Derived.Test.YtgoojkiccdjplaaGreatDoorN14
set_option linter.unusedVariables false
set_option linter.unusedSimpArgs false
set_option maxRecDepth 100000
set_option maxHeartbeats 16000000
namespace Go.Proofs.YtgoojkiccdjplaaGreatDoor
open Go.RowKit Go.Sort Go.Lib
section
variable {S S' : Nat → Prop}
theorem rcmp2_any (r s:RatD) (a b a' b':Option Addr) (c d c' d':Nat) (w:World) (h:RatS S w r a c b d) (k:RatS S' w s a' c' b' d') (hrn:r.num.length≤1000000) (hrd:r.den.length≤1000000) (hsn:s.num.length≤1000000) (hsd:s.den.length≤1000000) :
  Calls Tryz.prog 180 #[ratV r a c b d,ratV s a' c' b' d'] w fun e w'=>e = .returned (.int .i64 (cmpR r s))∧Below w.heap.size w w':=by
 have hr:=fun hv=>validR_is (r:=r) h.num.us64 h.den.us64 hv
 have hs:=fun hv=>validR_is (r:=s) k.num.us64 k.den.us64 hv
 have H:=hid h
 have K:=hid k
 obtain ⟨ng,nu,de⟩:=r
 obtain ⟨mg,mu,me⟩:=s
 dsimp only at *
 have hr':=hid hr
 have hs':=hid hs
 clear h k hr hs
 have x1:=heap2a w (.cells #[.bool ng,.slice a nu.length c,.slice b de.length d] 36) (.cells #[.bool mg,.slice a' mu.length c',.slice b' me.length d'] 36)
 have x2:=heap2b w (.cells #[.bool ng,.slice a nu.length c,.slice b de.length d] 36) (.cells #[.bool mg,.slice a' mu.length c',.slice b' me.length d'] 36)
 have hB0:=hid (below2 w (.cells #[.bool ng,.slice a nu.length c,.slice b de.length d] 36) (.cells #[.bool mg,.slice a' mu.length c',.slice b' me.length d'] 36))
 generalize hw0:(w.alloc (.cells #[.bool ng,.slice a nu.length c,.slice b de.length d] 36)).alloc (.cells #[.bool mg,.slice a' mu.length c',.slice b' me.length d'] 36)=w0 at *
 have hcell:=hid (show ∀W,Below w0.heap.size w0 W→W.cell? ⟨w.heap.size,0,none⟩=some (.bool ng)∧W.cell? ⟨w.heap.size,1,none⟩=some (.slice a nu.length c)∧W.cell? ⟨w.heap.size,2,none⟩=some (.slice b de.length d)∧W.cell? ⟨w.heap.size+1,0,none⟩=some (.bool mg)∧W.cell? ⟨w.heap.size+1,1,none⟩=some (.slice a' mu.length c')∧W.cell? ⟨w.heap.size+1,2,none⟩=some (.slice b' me.length d') from fun W hW=>
  ⟨keep_cell hW (cell_p x1 0),keep_cell hW (cell_p x1 1),keep_cell hW (cell_p x1 2),keep_cell hW (cell_p x2 0),keep_cell hW (cell_p x2 1),keep_cell hW (cell_p x2 2)⟩)
 have hbox:=hid (show ∀W,Below w0.heap.size w0 W→True∧Below w.heap.size w W from fun W hW=>⟨trivial,hB0.out.trans (hW.mono hB0.out.size)⟩)
 have hv1:=hid (ratValid_any ⟨ng,nu,de⟩ a b c d w0 (H.out.num.below hB0.out (Nat.le_refl _)) (H.out.den.below hB0.out (Nat.le_refl _)) hrn hrd H.out.nc H.out.dc)
 have hv2:=hid (fun W (hW:Below w0.heap.size w0 W)=>ratValid_any ⟨mg,mu,me⟩ a' b' c' d' W (K.out.num.below (hbox.out W hW).2 (Nat.le_refl _)) (K.out.den.below (hbox.out W hW).2 (Nat.le_refl _)) hsn hsd K.out.nc K.out.dc)
 obtain ⟨q0,q1,q2,r0,r1,r2⟩:=hcell.out w0 (Below.refl _ _)
 clear x1 x2
 cases hvr:okRat ⟨ng,nu,de⟩
 case false=>
  have hdf:=hid (show cmpR ⟨ng,nu,de⟩ ⟨mg,mu,me⟩=0 from by unfold cmpR validR;rw [hvr];rfl)
  rw [hvr] at hv1
  rw [hdf.out]
  clear hvr
  go_enter Tryz.func180,Tryz.ntmps180
  go_wp2_with fail
  refine hv1.out.mono ?_;rintro e w1 ⟨rfl,hb1⟩
  obtain ⟨xb,hb⟩:=hbox.out w1 hb1
  have XB:=hid xb
  have HB:=hid hb
  clear hw0 xb hb hb1 hv1
  go_wp2
  go_ret
  exact⟨rfl,HB.out⟩
 case true=>
  rw [hvr] at hv1
  cases hvs:okRat ⟨mg,mu,me⟩
  case false=>
   have hdf:=hid (show cmpR ⟨ng,nu,de⟩ ⟨mg,mu,me⟩=0 from by unfold cmpR validR;rw [hvr,hvs];rfl)
   rw [hvs] at hv2
   rw [hdf.out]
   clear hvr hvs
   go_enter Tryz.func180,Tryz.ntmps180
   go_wp2_with fail
   refine hv1.out.mono ?_;rintro e w1 ⟨rfl,hb1⟩
   have hb1':=hid hb1
   clear q0 q1 q2 r0 r1 r2
   obtain ⟨q0,q1,q2,r0,r1,r2⟩:=hcell.out w1 hb1
   clear hw0 hv1
   go_wp2_with fail
   refine(hv2.out w1 hb1'.out).mono ?_;rintro e w2 ⟨rfl,hb2⟩
   obtain ⟨xb,hb⟩:=hbox.out w2 (hb1'.out.trans (hb2.mono hb1'.out.size))
   have XB:=hid xb
   have HB:=hid hb
   clear xb hb hb1 hb2 hv2
   go_wp2
   go_ret
   exact⟨rfl,HB.out⟩
  case true=>
   have R:=hid (hr'.out hvr)
   have S2:=hid (hs'.out hvs)
   rw [hvs] at hv2
   have hdm:=hid (show cmpR ⟨ng,nu,de⟩ ⟨mg,mu,me⟩=orderZ (timesZ ⟨ng,valL nu⟩ ⟨false,valL me⟩) (timesZ ⟨mg,valL mu⟩ ⟨false,valL de⟩) from by unfold cmpR validR;rw [hvr,hvs];rfl)
   clear hr' hs' hvr hvs
   obtain ⟨x,y,e1,e2,lx,ly,hy0⟩:∃x y,nu=limbs x∧de=limbs y∧nu.length≤64∧de.length≤64∧0<y:=⟨_,_,R.out.num,R.out.den,R.out.nl,R.out.dl,R.out.pos⟩
   obtain ⟨x',y',e3,e4,lx',ly',hy0'⟩:∃x y,mu=limbs x∧me=limbs y∧mu.length≤64∧me.length≤64∧0<y:=⟨_,_,S2.out.num,S2.out.den,S2.out.nl,S2.out.dl,S2.out.pos⟩
   subst e1 e2 e3 e4
   rw [valL_limbs,valL_limbs,valL_limbs,valL_limbs] at hdm
   rw [hdm.out]
   clear R S2
   go_enter Tryz.func180,Tryz.ntmps180
   go_wp2_with fail
   refine hv1.out.mono ?_;rintro e w1 ⟨rfl,hb1⟩
   have hb1':=hid hb1
   clear q0 q1 q2 r0 r1 r2
   obtain ⟨q0,q1,q2,r0,r1,r2⟩:=hcell.out w1 hb1
   clear hw0 hv1 hb1
   go_wp2_with fail
   refine(hv2.out w1 hb1'.out).mono ?_;rintro e w2 ⟨rfl,hb2⟩
   have hb02:=hid (hb1'.out.trans (hb2.mono hb1'.out.size))
   clear q0 q1 q2 r0 r1 r2 hB0
   obtain ⟨q0,q1,q2,r0,r1,r2⟩:=hcell.out w2 hb02.out
   obtain ⟨xb,hb⟩:=hbox.out w2 hb02.out
   have hB0:=hid hb
   clear hcell hbox hb02 hb1' hb2 hv2 xb hb
   clear w1 w0
   obtain ⟨w0,rfl⟩:∃W,W=w2:=⟨_,rfl⟩
   have hsz:=hid hB0.out.size
   have hz1:=hid (show(limbs (timesZ ⟨ng,x⟩ ⟨false,y'⟩).n).length≤274877906944 from Nat.le_trans (limbs_mul_le lx ly') (by decide))
   have hz2:=hid (show(limbs (timesZ ⟨mg,x'⟩ ⟨false,y⟩).n).length≤274877906944 from Nat.le_trans (limbs_mul_le lx' ly) (by decide))
   have ht4:=hid (fun W (hb:Below w0.heap.size w0 W)=>wtimes_any ng false a b' (limbs x).length (limbs y').length c d' x y' W (H.out.num.below (hB0.out.trans (hb.mono hB0.out.size)) (Nat.le_refl _)) (K.out.den.below (hB0.out.trans (hb.mono hB0.out.size)) (Nat.le_refl _)) (by omega) (by omega))
   have ht9:=hid (fun W (hb:Below w0.heap.size w0 W)=>wtimes_any mg false a' b (limbs x').length (limbs y).length c' d x' y W (K.out.num.below (hB0.out.trans (hb.mono hB0.out.size)) (Nat.le_refl _)) (H.out.den.below (hB0.out.trans (hb.mono hB0.out.size)) (Nat.le_refl _)) (by omega) (by omega))
   have hcB:=hid (show ∀W,Below w0.heap.size w0 W→(W.cell? ⟨w.heap.size,0,none⟩=some (.bool ng)∧W.cell? ⟨w.heap.size,1,none⟩=some (.slice a (limbs x).length c)∧W.cell? ⟨w.heap.size,2,none⟩=some (.slice b (limbs y).length d))∧(W.cell? ⟨w.heap.size+1,0,none⟩=some (.bool mg)∧W.cell? ⟨w.heap.size+1,1,none⟩=some (.slice a' (limbs x').length c')∧W.cell? ⟨w.heap.size+1,2,none⟩=some (.slice b' (limbs y').length d')) from fun W hW=>⟨⟨keep_cell hW q0,keep_cell hW q1,keep_cell hW q2⟩,keep_cell hW r0,keep_cell hW r1,keep_cell hW r2⟩)
   go_wp2
   clear q0 q1 q2 r0 r1 r2
   refine wp_region_tt (S:=fun W=>Below w0.heap.size w0 W) 11 (by kernel_rfl) (by kernel_rfl) (keep_drew w0) (fun hdr=>?_)
   have BB:=hid (keep_drew w0)
   clear hdr
   generalize w0.drew=wc at *
   refine tk (i:=0) (hy:=(Or.inl ⟨by rfl,by(intro W hSw;have hq:=(hcB.out W hSw).1;have hq1:=hq.1;have hq2:=hq.2.1;have hq3:=hq.2.2;go_simp <;> with_reducible rfl)⟩)) (h:=?_)
   (try simp only [Act.put,sA,sB,sC])
   refine tk (i:=2) (hy:=(Or.inl ⟨by rfl,by(intro W hSw;have hq:=(hcB.out W hSw).2;have hq1:=hq.1;have hq2:=hq.2.1;have hq3:=hq.2.2;go_simp <;> with_reducible rfl)⟩)) (h:=?_)
   (try simp only [Act.put,sA,sB,sC])
   refine tk (i:=5) (hy:=(Or.inl ⟨by rfl,by(intro W hSw;have hq:=(hcB.out W hSw).2;have hq1:=hq.1;have hq2:=hq.2.1;have hq3:=hq.2.2;go_simp <;> with_reducible rfl)⟩)) (h:=?_)
   (try simp only [Act.put,sA,sB,sC])
   refine tk (i:=7) (hy:=(Or.inl ⟨by rfl,by(intro W hSw;have hq:=(hcB.out W hSw).1;have hq1:=hq.1;have hq2:=hq.2.1;have hq3:=hq.2.2;go_simp <;> with_reducible rfl)⟩)) (h:=?_)
   (try simp only [Act.put,sA,sB,sC])
   refine tt_ready (rs:=[1]) (by decide +kernel) (allT_cons (by rfl) (fun K hK=>?_) allT_nil)
   go_simp
   go_at_call 212
   refine(rnum_any _ _ _ _ _ _ _ wc).mono ?_
   rintro ee wn ⟨rfl,bn⟩
   have BB:=hid (BB.out.trans (bn.mono BB.out.size))
   (try have T4:=hid (T4.out.below bn (Nat.le_refl _)))
   (try have T9:=hid (T9.out.below bn (Nat.le_refl _)))
   clear bn
   obtain ⟨wc,rfl⟩:∃W,W=wn:=⟨_,rfl⟩
   (try dsimp only)
   refine hK.out _ _ (by(exact BB.out)) (fun hHeld2=>?_)
   clear hK K
   (try simp only [Act.put,sA,sB,sC])
   refine tt_ready (rs:=[3]) (by decide +kernel) (allT_cons (by rfl) (fun K hK=>?_) allT_nil)
   go_simp
   go_at_call 213
   refine(rden_any _ _ _ _ _ _ _ wc).mono ?_
   rintro ee wn ⟨rfl,bn⟩
   have BB:=hid (BB.out.trans (bn.mono BB.out.size))
   (try have T4:=hid (T4.out.below bn (Nat.le_refl _)))
   (try have T9:=hid (T9.out.below bn (Nat.le_refl _)))
   clear bn
   obtain ⟨wc,rfl⟩:∃W,W=wn:=⟨_,rfl⟩
   (try dsimp only)
   refine hK.out _ _ (by(exact BB.out)) (fun hHeld3=>?_)
   clear hK K
   (try simp only [Act.put,sA,sB,sC])
   refine tt_ready (rs:=[4]) (by decide +kernel) (allT_cons (by rfl) (fun K hK=>?_) allT_nil)
   go_simp
   go_at_call 211
   refine(ht4.out wc BB.out).mono ?_
   rintro ee wn ⟨aT4,cT4,rfl,sT,mT,bn⟩
   have TN:=hid (sT.mono (S':=fun _=>True) fun _ _ _=>trivial)
   clear sT mT
   have BB:=hid (BB.out.trans (bn.mono BB.out.size))
   (try have T4:=hid (T4.out.below bn (Nat.le_refl _)))
   (try have T9:=hid (T9.out.below bn (Nat.le_refl _)))
   clear bn
   obtain ⟨wc,rfl⟩:∃W,W=wn:=⟨_,rfl⟩
   (try dsimp only)
   have T4:=TN
   clear TN
   refine hK.out _ _ (by(exact BB.out)) (fun hHeld4=>?_)
   clear hK K
   (try simp only [Act.put,sA,sB,sC])
   refine tt_ready (rs:=[6]) (by decide +kernel) (allT_cons (by rfl) (fun K hK=>?_) allT_nil)
   go_simp
   go_at_call 212
   refine(rnum_any _ _ _ _ _ _ _ wc).mono ?_
   rintro ee wn ⟨rfl,bn⟩
   have BB:=hid (BB.out.trans (bn.mono BB.out.size))
   (try have T4:=hid (T4.out.below bn (Nat.le_refl _)))
   (try have T9:=hid (T9.out.below bn (Nat.le_refl _)))
   clear bn
   obtain ⟨wc,rfl⟩:∃W,W=wn:=⟨_,rfl⟩
   (try dsimp only)
   refine hK.out _ _ (by(exact BB.out)) (fun hHeld5=>?_)
   clear hK K
   (try simp only [Act.put,sA,sB,sC])
   refine tt_ready (rs:=[8]) (by decide +kernel) (allT_cons (by rfl) (fun K hK=>?_) allT_nil)
   go_simp
   go_at_call 213
   refine(rden_any _ _ _ _ _ _ _ wc).mono ?_
   rintro ee wn ⟨rfl,bn⟩
   have BB:=hid (BB.out.trans (bn.mono BB.out.size))
   (try have T4:=hid (T4.out.below bn (Nat.le_refl _)))
   (try have T9:=hid (T9.out.below bn (Nat.le_refl _)))
   clear bn
   obtain ⟨wc,rfl⟩:∃W,W=wn:=⟨_,rfl⟩
   (try dsimp only)
   refine hK.out _ _ (by(exact BB.out)) (fun hHeld6=>?_)
   clear hK K
   (try simp only [Act.put,sA,sB,sC])
   refine tt_ready (rs:=[9]) (by decide +kernel) (allT_cons (by rfl) (fun K hK=>?_) allT_nil)
   go_simp
   go_at_call 211
   refine(ht9.out wc BB.out).mono ?_
   rintro ee wn ⟨aT9,cT9,rfl,sT,mT,bn⟩
   have TN:=hid (sT.mono (S':=fun _=>True) fun _ _ _=>trivial)
   clear sT mT
   have BB:=hid (BB.out.trans (bn.mono BB.out.size))
   (try have T4:=hid (T4.out.below bn (Nat.le_refl _)))
   (try have T9:=hid (T9.out.below bn (Nat.le_refl _)))
   clear bn
   obtain ⟨wc,rfl⟩:∃W,W=wn:=⟨_,rfl⟩
   (try dsimp only)
   have T9:=TN
   clear TN
   refine hK.out _ _ (by(exact BB.out)) (fun hHeld7=>?_)
   clear hK K
   (try simp only [Act.put,sA,sB,sC])
   refine tt_ready (rs:=[10]) (by decide +kernel) (allT_cons (by rfl) (fun K hK=>?_) allT_nil)
   have hpp:=hid (worder_any (timesZ ⟨ng,x⟩ ⟨false,y'⟩).neg (timesZ ⟨mg,x'⟩ ⟨false,y⟩).neg aT4 aT9 (limbs (timesZ ⟨ng,x⟩ ⟨false,y'⟩).n).length (limbs (timesZ ⟨mg,x'⟩ ⟨false,y⟩).n).length cT4 cT9 (timesZ ⟨ng,x⟩ ⟨false,y'⟩).n (timesZ ⟨mg,x'⟩ ⟨false,y⟩).n wc T4.out T9.out hz1.out hz2.out)
   go_simp
   go_at_call 210
   refine hpp.out.mono ?_
   rintro ee wn ⟨rfl,bn⟩
   have BB:=hid (BB.out.trans (bn.mono BB.out.size))
   clear bn hpp
   dsimp only
   refine hK.out _ _ (by(exact BB.out)) (fun hHeld8=>?_)
   clear hK K
   (try simp only [Act.put,sA,sB,sC])
   refine tt_tail (by decide +kernel) ?_
   simp only [List.drop_succ_cons,List.drop_zero]
   go_wp2
   go_ret
   exact⟨rfl,hB0.out.trans (BB.out.mono hB0.out.size)⟩
end
def eqRow (p:Bool) (x:ValD) (l:List ValD):Bool:=l.all fun y=>sameV x y == p
def equalV (p:Bool):List ValD→Bool
 | []=>true
 | x :: l=>eqRow p x l && equalV p l
def okCmp (op c:Int):Bool:=if c<0 then decide (op=17) || decide (op=18) else if 0<c then decide (op=19) || decide (op=20) else decide (op=17) || decide (op=19)
def orderV (op:Int):List ValD→Bool
 | x :: y :: l=>okCmp op (cmpR x.num y.num) && orderV op (y :: l)
 | _=>true
def smallV (v:ValD):Prop:=v.num.num.length≤1000000∧v.num.den.length≤1000000
theorem cmpN_bd (x y:Nat):-1≤cmpN x y∧cmpN x y≤1:=by unfold cmpN;split;omega;split <;> omega
theorem cmpR_bd (r s:RatD):-1≤cmpR r s∧cmpR r s≤1:=by
 unfold cmpR
 split
 ·unfold orderZ
  split
  ·split <;> exact cmpN_bd _ _
  ·split <;> omega
 ·omega
theorem equalV_drop {p:Bool} {l:List ValD} {k:Nat} (hk:k<l.length):equalV p (l.drop k)=(eqRow p (valAtL l k) (l.drop (k+1)) && equalV p (l.drop (k+1))):=by
 rw [List.drop_eq_getElem_cons hk]
 have:l[k]=valAtL l k:=by have:=valAtL_eq hk;rw [List.getElem?_eq_getElem hk] at this;injection this
 rw [this];rfl
theorem orderV_drop {op:Int} {l:List ValD} {k:Nat} (hk:k+1<l.length):orderV op (l.drop k)=(okCmp op (cmpR (valAtL l k).num (valAtL l (k+1)).num) && orderV op (l.drop (k+1))):=by
 rw [List.drop_eq_getElem_cons (show k<l.length by omega),List.drop_eq_getElem_cons hk]
 have h1:l[k]=valAtL l k:=by have:=valAtL_eq (l:=l) (k:=k) (by omega);rw [List.getElem?_eq_getElem (by omega)] at this;injection this
 have h2:l[k+1]=valAtL l (k+1):=by have:=valAtL_eq hk;rw [List.getElem?_eq_getElem hk] at this;injection this
 rw [h1,h2];rfl
theorem orderV_last {op : Int} {l : List ValD} {k : Nat} (hk : l.length ≤ k + 1) : orderV op (l.drop k) = true := by
  have : (l.drop k).length ≤ 1 := by rw [List.length_drop]; omega
  cases h : l.drop k with
  | nil => rfl
  | cons x t =>
    cases t with
    | nil => rfl
    | cons y t => rw [h] at this; simp at this
theorem eqRow_drop {p:Bool} {x:ValD} {l:List ValD} {k:Nat} (hk:k<l.length):eqRow p x (l.drop k)=((sameV x (valAtL l k) == p) && eqRow p x (l.drop (k+1))):=by
 rw [List.drop_eq_getElem_cons hk]
 have:l[k]=valAtL l k:=by have:=valAtL_eq hk;rw [List.getElem?_eq_getElem hk] at this;injection this
 rw [this];rfl
theorem valAtL_drop {l:List ValD} {i k:Nat}:valAtL (l.drop i) k=valAtL l (i+k):=by
 unfold valAtL
 rw [List.getD_eq_getElem?_getD,List.getD_eq_getElem?_getD,List.getElem?_drop]
section
variable {S S' : Nat → Prop}
theorem SlR.fromK {α:Type} {R:Rep α} {w:World} {a:Option Addr} {n c k:Nat} {xs:List α} (h:SlR R S w a n xs) (hn:k≤n) (hc:n≤c):SlR R S w (fromA a c k R.k) (n - k) (xs.drop k):=by
 refine⟨by rw [List.length_drop,h.1],fun hp=>?_⟩
 obtain ⟨b,o,ha,hlt,hS,hcc⟩:=h.2 (by omega)
 refine⟨b,o+k * R.k,?_,hlt,hS,fun j x hx=>?_⟩
 ·unfold fromA
  rw [if_neg (by omega),ha]
  show some (Addr.add ⟨b,o,none⟩ (k * R.k))=_
  rw [Addr.add_lit]
 ·rw [List.getElem?_drop] at hx
  obtain ⟨cs,k1,k2⟩:=hcc (k+j) x hx
  refine⟨cs,k1,fun i u hu=>?_⟩
  have:=k2 i u hu
  rw [show o+k * R.k+j * R.k+i=o+(k+j) * R.k+i from by rw [Nat.add_mul];omega]
  exact this
theorem run_fromK {a:Option Addr} {n c k:Nat} (hk:k≤n) (hc:n≤c) (W:World):(Instr.slice 78 (.slice a n c) (some (.int .i64 k)) none none).run Tryz.prog W = .ok (.slice (fromA a c k 6) (n - k) (c - k)) W:=
 run_from2 (k:=k) Tryz.underlying78 size_val hk hc W
theorem mequal_any (op:Int) (a:Option Addr) (n c:Nat) (l:List ValD) (w:World) (h:SlR repV S w a n l) (hc:n≤c) (hn:n≤1000000) (hs:∀v∈l,smallV v) :
  Calls Tryz.prog 141 #[.int .i64 op,.slice a n c] w fun e w'=>e = .returned (.bool (equalV (decide (op=8)) l))∧Below w.heap.size w w':=by
 have H:=hid h
 have hl:=hid h.1
 have hs':=hid hs
 have hop:(op == 8)=decide (op=8):=by rw [Bool.eq_iff_iff];simp
 generalize hpp:decide (op=8)=p at *
 obtain ⟨z,hz⟩:∃z,equalV p l=z:=⟨_,rfl⟩
 have hz0:=hid hz
 rw [hz]
 have hpp':=hid hpp
 clear hz h hs hpp
 go_enter Tryz.func141,Tryz.ntmps141
 go_wp2
 go_loopw [11,5,21] (fun v11 _ _ wr=>∃k:Nat,k≤n∧v11 = .int .i64 k∧Hid (equalV p (l.drop k)=z)∧Hid (Below w.heap.size w wr)) (fun v11 _ _ _=>n - (intOf v11).toNat)
 case atStart=>exact⟨0,Nat.zero_le _,rfl,by show equalV p (l.drop 0)=z;rw [List.drop_zero];exact hz0.out,Below.refl _ _⟩
 case round=>
  obtain ⟨k,hk,rfl,hE,hB⟩:=hrel
  obtain ⟨wa,rfl⟩:∃wa,wa=wr:=⟨_,rfl⟩
  by_cases hkn:k<n
  case neg=>
   obtain rfl:k=n:=by omega
   have hki:¬(k:Int)<k:=by omega
   have hv:=hid (show true=z from by rw [←hE.out,List.drop_of_length_le (by rw [hl.out];exact Nat.le_refl _)];rfl)
   go_wp2
   go_ret
   exact⟨ret_bool hv.out,hB.out⟩
  case pos=>
   have hki:(k:Int)<n:=by omega
   have hek:=valAtL_eq (l:=l) (k:=k) (by rw [hl.out];omega)
   obtain ⟨b3,o3,a3,c3,e3,d3,rfl,V3,hv3⟩:=(H.out.below hB.out (Nat.le_refl _)).valAt hek
   have hsm:=hid (hs'.out _ (List.mem_of_getElem? hek))
   have hE2:=hid (show(eqRow p (valAtL l k) (l.drop (k+1)) && equalV p (l.drop (k+1)))=z from by rw [←equalV_drop (by rw [hl.out];exact hkn)];exact hE.out)
   have y0:=hv3 0 _ rfl
   have y1:=hv3 1 _ rfl
   have y2:=hv3 2 _ rfl
   have y3:=hv3 3 _ rfl
   have y4:=hv3 4 _ rfl
   have y5:=hv3 5 _ rfl
   rw [Nat.add_zero] at y0
   have HD:=hid (H.out.fromK (k:=k+1) (by omega) hc)
   rw [show repV.k=6 from rfl] at HD
   have hdl:=hid HD.out.1
   have hsl:=fun W=>run_fromK (a:=some ⟨b3,o3,none⟩) (n:=n) (c:=c) (k:=k+1) (by omega) hc W
   rw [show((k+1:Nat):Int)=(k:Int)+1 by simp] at hsl
   obtain ⟨m,hm⟩:∃m,n - (k+1)=m:=⟨_,rfl⟩
   rw [hm] at HD hdl
   simp only [hm] at hsl
   have hmn:m≤1000000:=by omega
   have V3':=hid V3
   clear hek hv3 hE V3 hm
   generalize valAtL l k=x at *
   obtain ⟨s,bo,⟨ng,nu,de⟩,el⟩:=x
   dsimp only at *
   have hBA:=hid (hB.out.trans (((Below.refl wa.heap.size wa).alloc (Nat.le_refl _) (.cells #[.int .i64 s,.bool bo,.bool ng,.slice a3 nu.length c3,.slice e3 de.length d3,.int .i64 el] 64)).mono hB.out.size))
   have XA:=hid (heap_alloc_new wa (.cells #[.int .i64 s,.bool bo,.bool ng,.slice a3 nu.length c3,.slice e3 de.length d3,.int .i64 el] 64))
   have bA:=hid ((Below.refl wa.heap.size wa).alloc (Nat.le_refl _) (.cells #[.int .i64 s,.bool bo,.bool ng,.slice a3 nu.length c3,.slice e3 de.length d3,.int .i64 el] 64))
   obtain ⟨T,hT⟩:∃T,l.drop (k+1)=T:=⟨_,rfl⟩
   have hsT:=hid (show ∀v∈T,smallV v from fun v hv=>hs'.out v (by rw [←hT] at hv;exact List.mem_of_mem_drop hv))
   have hT':=hid hT
   rw [hT] at HD hdl hE2
   clear hT
   generalize fromA (some ⟨b3,o3,none⟩) c (k+1) 6=a' at *
   go_upto_region 4 with fail
   generalize (wa.alloc (.cells #[.int .i64 s,.bool bo,.bool ng,.slice a3 nu.length c3,.slice e3 de.length d3,.int .i64 el] 64))=wA at *
   clear y0 y1 y2 y3 y4 y5
   go_wp2
   go_loopw [21] (fun v21 wr=>∃j:Nat,j≤m∧v21 = .int .i64 j∧Hid ((eqRow p ⟨s,bo,⟨ng,nu,de⟩,el⟩ (T.drop j) && equalV p T)=z)∧Hid (Below wA.heap.size wA wr)) (fun v21 _=>m - (intOf v21).toNat)
   case atStart=>exact⟨0,Nat.zero_le _,rfl,by show(eqRow p _ (T.drop 0) && equalV p T)=z;rw [List.drop_zero];exact hE2.out,Below.refl _ _⟩
   case round=>
    obtain ⟨j,hj,rfl,hE3,hB2⟩:=hrel
    have BW:=hid (hBA.out.trans (hB2.out.mono hBA.out.size))
    by_cases hjm:j<m
    case neg=>
     obtain rfl:j=m:=by omega
     have hji:¬(j:Int)<j:=by omega
     have hv:=hid (show equalV p T=z from by
      have:=hE3.out
      rw [List.drop_of_length_le (by rw [hdl.out];exact Nat.le_refl _)] at this
      exact this)
     go_wp2
     go_roundw
     case rel=>exact⟨k+1,by omega,by go_num,by show equalV p (l.drop (k+1))=z;rw [hT'.out];exact hv.out,BW.out⟩
     case measure=>first | (simp [intOf];done) | (simp [intOf];omega)
    case pos=>
     have hji:(j:Int)<m:=by omega
     have hej:=valAtL_eq (l:=T) (k:=j) (by rw [hdl.out];omega)
     obtain ⟨b4,o4,a4,c4,e4,d4,rfl,V4,hv4⟩:=(HD.out.below BW.out (Nat.le_refl _)).valAt hej
     have hE4:=hid (show(((sameV ⟨s,bo,⟨ng,nu,de⟩,el⟩ (valAtL T j) == p) && eqRow p ⟨s,bo,⟨ng,nu,de⟩,el⟩ (T.drop (j+1))) && equalV p T)=z from by rw [←eqRow_drop (by rw [hdl.out];exact hjm)];exact hE3.out)
     have y0:=hv4 0 _ rfl
     have y1:=hv4 1 _ rfl
     have y2:=hv4 2 _ rfl
     have y3:=hv4 3 _ rfl
     have y4:=hv4 4 _ rfl
     have y5:=hv4 5 _ rfl
     rw [Nat.add_zero] at y0
     have V4':=hid V4
     clear hej hv4 hE3 V4
     generalize valAtL T j=y at *
     obtain ⟨t,bp,⟨mg,mu,me⟩,em⟩:=y
     dsimp only at *
     have bB:=hid ((Below.refl wr.heap.size wr).alloc (Nat.le_refl _) (.cells #[.int .i64 t,.bool bp,.bool mg,.slice a4 mu.length c4,.slice e4 me.length d4,.int .i64 em] 64))
     have BB:=hid (hB2.out.trans (bB.out.mono hB2.out.size))
     have XB:=hid (heap_alloc_new wr (.cells #[.int .i64 t,.bool bp,.bool mg,.slice a4 mu.length c4,.slice e4 me.length d4,.int .i64 em] 64))
     have hsa:=hid (msame_any ⟨s,bo,⟨ng,nu,de⟩,el⟩ ⟨t,bp,⟨mg,mu,me⟩,em⟩ a3 e3 a4 e4 c3 d3 c4 d4 _ ((V3'.out.below bA.out (Nat.le_refl _)).below BB.out (Nat.le_refl _)) (V4'.out.below bB.out (Nat.le_refl _)) hsm.out.1 hsm.out.2)
     have XA2:=hid ((BB.out.block _ (Array.getElem?_eq_some_iff.1 XA.out).1).trans XA.out)
     go_upto_region 7 with fail
     generalize (wr.alloc (.cells #[.int .i64 t,.bool bp,.bool mg,.slice a4 mu.length c4,.slice e4 me.length d4,.int .i64 em] 64))=wB at *
     clear y0 y1 y2 y3 y4 y5
     have u0:=cell_p XA2.out 0
     have u1:=cell_p XA2.out 1
     have u2:=cell_p XA2.out 2
     have u3:=cell_p XA2.out 3
     have u4:=cell_p XA2.out 4
     have u5:=cell_p XA2.out 5
     have v0:=cell_p XB.out 0
     have v1:=cell_p XB.out 1
     have v2:=cell_p XB.out 2
     have v3:=cell_p XB.out 3
     have v4:=cell_p XB.out 4
     have v5:=cell_p XB.out 5
     simp only [List.getElem?_toArray,List.getElem?_cons_succ,List.getElem?_cons_zero] at u0 u1 u2 u3 u4 u5 v0 v1 v2 v3 v4 v5
     generalize sameV ⟨s,bo,⟨ng,nu,de⟩,el⟩ ⟨t,bp,⟨mg,mu,me⟩,em⟩=sv at *
     go_wp2_with fail
     refine hsa.out.mono ?_;rintro e wC ⟨rfl,bC⟩
     have BC:=hid (BB.out.trans (bC.mono BB.out.size))
     have BD:=hid (hBA.out.trans (BC.out.mono hBA.out.size))
     clear bC hsa u0 u1 u2 u3 u4 u5 v0 v1 v2 v3 v4 v5
     cases hsp:(sv == p)
     case true=>
      obtain rfl:sv=p:=by simpa using hsp
      have hE5:=hid (show(eqRow sv ⟨s,bo,⟨ng,nu,de⟩,el⟩ (T.drop (j+1)) && equalV sv T)=z from by rw [←hE4.out,hsp];rfl)
      clear hE4
      go_wp2
      go_roundw
      case rel=>exact⟨j+1,by omega,by go_num,hE5.out,BC.out⟩
      case measure=>first | (simp [intOf];done) | (simp [intOf];omega)
     case false=>
      have hv:=hid (show false=z from by rw [←hE4.out,hsp];rfl)
      clear hE4
      go_wp2
      go_ret
      exact⟨ret_bool hv.out,BD.out⟩
end
def numV (n d:Int):ValD:=⟨1,false,ofR n d,0⟩
def fullV (a b:ValD):Bool:=decide (a.sort=b.sort) && ((a.bool == b.bool) && (decide (a.el=b.el) && alikeR a.num b.num))
theorem fullV_refl (a:ValD):fullV a a=true:=by
 unfold fullV
 rw [alikeR_iff.2 rfl]
 simp
theorem number10_any (n d:Int) (hn:okI n) (hd0:0<d) (hd:okI d) (w:World):Calls Tryz.prog 34 #[.int .i64 n,.int .i64 d] w fun e w'=>ValP (numV n d) w e w':=by
 have X0:=hid (heap_alloc_new w (.cells #[.int .i64 0,.bool false,.bool false,.slice none 0 0,.slice none 0 0,.int .i64 0] 64))
 have hB0:=hid (show Below w.heap.size w (w.alloc (.cells #[.int .i64 0,.bool false,.bool false,.slice none 0 0,.slice none 0 0,.int .i64 0] 64)) from(Below.refl _ _).alloc (Nat.le_refl _) _)
 have ho:=rof_any n d hn hd0 hd (w.alloc (.cells #[.int .i64 0,.bool false,.bool false,.slice none 0 0,.slice none 0 0,.int .i64 0] 64))
 obtain ⟨V,hV⟩:∃V,numV n d=V:=⟨_,rfl⟩
 have hv:V=⟨1,false,ofR n d,0⟩:=hV.symm
 rw [hV]
 obtain ⟨RR,hRR⟩:∃R,ofR n d=R:=⟨_,rfl⟩
 rw [hRR] at ho hv
 have ho':=hid ho
 subst hv
 obtain ⟨rn,ru,rd⟩:=RR
 clear hRR hV ho hn hd0 hd
 go_enter Tryz.func34,Tryz.ntmps34
 go_wp2_with fail
 refine ho'.out.mono ?_
 rintro e w1 ⟨a,c,b,d1,rfl,h2,h3,h4,h5,hb1⟩
 have V1:=hid (show ValS (DatF w.heap.size w1) w1 ⟨1,false,⟨rn,ru,rd⟩,0⟩ a c b d1 from⟨(show okI 1 from⟨by decide,by decide⟩),(show okI 0 from⟨by decide,by decide⟩),h2.mono fun _ _ hk=>⟨hk.1,Nat.le_trans hB0.out.size hk.2⟩,h4,h3.mono fun _ _ hk=>⟨hk.1,Nat.le_trans hB0.out.size hk.2⟩,h5⟩)
 have X1:=hid ((hb1.block _ (Array.getElem?_eq_some_iff.1 X0.out).1).trans X0.out)
 have B1:=hid (hB0.out.trans (hb1.mono hB0.out.size))
 clear h2 h3 h4 h5 hb1 ho'
 have z0:=cell_p X1.out 0
 have z1:=cell_p X1.out 1
 have z2:=cell_p X1.out 2
 have z3:=cell_p X1.out 3
 have z4:=cell_p X1.out 4
 have z5:=cell_p X1.out 5
 have f0:=frz_p X1.out 0
 have f1:=frz_p X1.out 1
 have f2:=frz_p X1.out 2
 have f3:=frz_p X1.out 3
 have f4:=frz_p X1.out 4
 have f5:=frz_p X1.out 5
 simp only [List.getElem?_toArray,List.getElem?_cons_succ,List.getElem?_cons_zero] at z0 z1 z2 z3 z4 z5
 go_wp2
 refine bodyPost_ret (v:=valV ⟨1,false,⟨rn,ru,rd⟩,0⟩ a c b d1) (by simp [results,Tryz.results34,go_sem, *]) rfl ?_
 exact ValP.set (v:=⟨1,false,⟨rn,ru,rd⟩,0⟩) (by decide) (by decide) X1.out (Nat.le_refl _) V1.out B1.out [(0,.int .i64 1),(1,.bool false),(2,.bool rn),(3,.slice a ru.length c),(4,.slice b rd.length d1),(5,.int .i64 0)]
theorem same10_any {S S':Nat→Prop} (x y:ValD) (a b a' b':Option Addr) (c d c' d':Nat) (w:World) (h:ValS S w x a c b d) (k:ValS S' w y a' c' b' d') (hx:smallV x) (hy:smallV y) :
  Calls Tryz.prog 36 #[valV x a c b d,valV y a' c' b' d'] w fun e w'=>e = .returned (.bool (fullV x y))∧Below w.heap.size w w':=by
 have hd:=@hid (fullV x y=(decide (x.sort=y.sort) && ((x.bool == y.bool) && (decide (x.el=y.el) && sameR x.num y.num)))) rfl
 have hB:=hid (below2 w (.cells #[.int .i64 x.sort,.bool x.bool,.bool x.num.neg,.slice a x.num.num.length c,.slice b x.num.den.length d,.int .i64 x.el] 64) (.cells #[.int .i64 y.sort,.bool y.bool,.bool y.num.neg,.slice a' y.num.num.length c',.slice b' y.num.den.length d',.int .i64 y.el] 64))
 have hs:=hid (rsame_any x.num y.num a b a' b' c d c' d' _ (h.num.below hB.out (Nat.le_refl _)) (h.den.below hB.out (Nat.le_refl _)) (k.num.below hB.out (Nat.le_refl _)) (k.den.below hB.out (Nat.le_refl _)) (Nat.lt_of_le_of_lt hx.1 (by decide)) (Nat.lt_of_le_of_lt hx.2 (by decide)) (Nat.lt_of_le_of_lt hy.1 (by decide)) (Nat.lt_of_le_of_lt hy.2 (by decide)))
 have h0:=heap2a w (.cells #[.int .i64 x.sort,.bool x.bool,.bool x.num.neg,.slice a x.num.num.length c,.slice b x.num.den.length d,.int .i64 x.el] 64) (.cells #[.int .i64 y.sort,.bool y.bool,.bool y.num.neg,.slice a' y.num.num.length c',.slice b' y.num.den.length d',.int .i64 y.el] 64)
 have h1:=heap2b w (.cells #[.int .i64 x.sort,.bool x.bool,.bool x.num.neg,.slice a x.num.num.length c,.slice b x.num.den.length d,.int .i64 x.el] 64) (.cells #[.int .i64 y.sort,.bool y.bool,.bool y.num.neg,.slice a' y.num.num.length c',.slice b' y.num.den.length d',.int .i64 y.el] 64)
 obtain ⟨R,hRR⟩:∃R,fullV x y=R:=⟨_,rfl⟩
 rw [hRR] at hd ⊢
 clear hRR
 obtain ⟨s1,b1,⟨n1,u1,d1⟩,e1⟩:=x
 obtain ⟨s2,b2,⟨n2,u2,d2⟩,e2⟩:=y
 dsimp only at *
 generalize hw0:(w.alloc (.cells #[.int .i64 s1,.bool b1,.bool n1,.slice a u1.length c,.slice b d1.length d,.int .i64 e1] 64)).alloc (.cells #[.int .i64 s2,.bool b2,.bool n2,.slice a' u2.length c',.slice b' d2.length d',.int .i64 e2] 64)=w0 at *
 have p0:=cell_p h0 0
 have p1:=cell_p h0 1
 have p2:=cell_p h0 2
 have p3:=cell_p h0 3
 have p4:=cell_p h0 4
 have p5:=cell_p h0 5
 have q0:=cell_p h1 0
 have q1:=cell_p h1 1
 have q2:=cell_p h1 2
 have q3:=cell_p h1 3
 have q4:=cell_p h1 4
 have q5:=cell_p h1 5
 simp only [List.getElem?_toArray,List.getElem?_cons_succ,List.getElem?_cons_zero] at p0 p1 p2 p3 p4 p5 q0 q1 q2 q3 q4 q5
 clear h0 h1 h k hx hy
 by_cases g1:s1=s2
 case neg=>
  have hv:=hid (show R=false from by rw [hd.out,decide_eq_false g1];rfl)
  have g1b:(s1 == s2)=false:=by simpa using g1
  clear hd hs
  go_enter Tryz.func36,Tryz.ntmps36
  go_upto_region 1 with fail
  go_wp2
  go_ret
  exact⟨ret_bool hv.out.symm,hB.out⟩
 case pos=>
  subst g1
  have hd2:=hid (show R=((b1 == b2) && (decide (e1=e2) && sameR ⟨n1,u1,d1⟩ ⟨n2,u2,d2⟩)) from by rw [hd.out];simp)
  clear hd
  cases g2:(b1 == b2)
  case false=>
   have hv:=hid (show R=false from by rw [hd2.out,g2];rfl)
   clear hd2 hs
   go_enter Tryz.func36,Tryz.ntmps36
   go_upto_region 1 with fail
   go_wp2
   go_ret
   exact⟨ret_bool hv.out.symm,hB.out⟩
  case true=>
   by_cases g3:e1=e2
   case neg=>
    have hv:=hid (show R=false from by rw [hd2.out,g2,decide_eq_false g3];rfl)
    have g3b:(e1 == e2)=false:=by simpa using g3
    clear hd2 hs
    go_enter Tryz.func36,Tryz.ntmps36
    go_upto_region 1 with fail
    go_wp2
    go_ret
    exact⟨ret_bool hv.out.symm,hB.out⟩
   case pos=>
    subst g3
    have hv:=hid (show R=sameR ⟨n1,u1,d1⟩ ⟨n2,u2,d2⟩ from by rw [hd2.out,g2];simp)
    clear hd2
    go_enter Tryz.func36,Tryz.ntmps36
    go_upto_region 1 with fail
    go_wp2_with fail
    refine hs.out.mono ?_;rintro e w1 ⟨rfl,hb1⟩
    have B1:=hid (hB.out.trans (hb1.mono hB.out.size))
    clear hb1 hs
    go_wp2
    go_ret
    exact⟨ret_bool hv.out.symm,B1.out⟩
theorem mzero_any (s:Int) (hs:okI s) (w:World):Calls Tryz.prog 48 #[.int .i64 s] w fun e w'=>ValP (zeroV s) w e w':=by
 have h0:=heap2a w (.cells #[.int .i64 0,.bool false,.bool false,.slice none 0 0,.slice none 0 0,.int .i64 0] 64) (.cells #[.int .i64 s,.bool false,.bool false,.slice none 0 0,.slice none 0 0,.int .i64 0] 64)
 have h1:=heap2b w (.cells #[.int .i64 0,.bool false,.bool false,.slice none 0 0,.slice none 0 0,.int .i64 0] 64) (.cells #[.int .i64 s,.bool false,.bool false,.slice none 0 0,.slice none 0 0,.int .i64 0] 64)
 have hB:=hid (below2 w (.cells #[.int .i64 0,.bool false,.bool false,.slice none 0 0,.slice none 0 0,.int .i64 0] 64) (.cells #[.int .i64 s,.bool false,.bool false,.slice none 0 0,.slice none 0 0,.int .i64 0] 64))
 have hS:=hid hs
 clear hs
 have hz:=hid (fun W=>ratZero_any W)
 have H0:=hid h0
 have H1:=hid h1
 clear h0 h1
 by_cases g1:s=1
 case pos=>
  subst g1
  go_enter Tryz.func48,Tryz.ntmps48
  go_upto_region 3 with fail
  generalize (w.alloc (.cells #[.int .i64 0,.bool false,.bool false,.slice none 0 0,.slice none 0 0,.int .i64 0] 64)).alloc (.cells #[.int .i64 1,.bool false,.bool false,.slice none 0 0,.slice none 0 0,.int .i64 0] 64)=w0 at *
  go_wp2_with fail
  refine(hz.out w0).mono ?_
  rintro e w1 ⟨a,c,b,d,rfl,s3,t3,l3,l3',hb1⟩
  have y0:=(hb1.block _ (Array.getElem?_eq_some_iff.1 H0.out).1).trans H0.out
  have y1:=(hb1.block _ (Array.getElem?_eq_some_iff.1 H1.out).1).trans H1.out
  have Y0:=hid y0
  have Y1:=hid y1
  have B1:=hid (hB.out.trans (hb1.mono hB.out.size))
  have p0:=cell_p y0 0
  have p1:=cell_p y0 1
  have p2:=cell_p y0 2
  have p3:=cell_p y0 3
  have p4:=cell_p y0 4
  have p5:=cell_p y0 5
  have q0:=cell_p y1 0
  have q1:=cell_p y1 1
  have q2:=cell_p y1 2
  have q3:=cell_p y1 3
  have q4:=cell_p y1 4
  have q5:=cell_p y1 5
  have f0:=frz_p y0 0
  have f1:=frz_p y0 1
  have f2:=frz_p y0 2
  have f3:=frz_p y0 3
  have f4:=frz_p y0 4
  have f5:=frz_p y0 5
  have k2:=frz_p y1 2
  have k3:=frz_p y1 3
  have k4:=frz_p y1 4
  simp only [List.getElem?_toArray,List.getElem?_cons_succ,List.getElem?_cons_zero] at p0 p1 p2 p3 p4 p5 q0 q1 q2 q3 q4 q5
  have S3:=hid s3
  have T3:=hid t3
  have L3:=hid l3
  have L4:=hid l3'
  clear s3 t3 l3 l3' hb1 y0 y1 hz
  go_wp2
  refine bodyPost_ret (v:=valV (zeroV 1) a c b d) (by simp [results,Tryz.results48,go_sem,zeroV,zeroRat, *]) rfl ?_
  obtain ⟨g1,g2,g3⟩:=setL_dat (p:=w.heap.size+1) (by decide) (by decide) [(2,.bool false),(3,.slice a 0 c),(4,.slice b 1 d)] w1 _ Y1.out
  exact ValP.set (v:=zeroV 1) (W:=setL (w.heap.size+1) [(2,.bool false),(3,.slice a 0 c),(4,.slice b 1 d)] w1) (by decide) (by decide) ((setL_other (by omega) _ w1).trans Y0.out) (Nat.le_refl _)
   ⟨hS.out,(show okI 0 from⟨by decide,by decide⟩),(S3.out.mono fun _ _ hk=>⟨hk.1,by have:=hB.out.size;have:=hk.2;omega⟩).move g1 (Nat.le_of_eq g2.symm),L3.out,(T3.out.mono fun _ _ hk=>⟨hk.1,by have:=hB.out.size;have:=hk.2;omega⟩).move g1 (Nat.le_of_eq g2.symm),L4.out⟩ (g3 _ _ (Nat.le_succ _) B1.out)
   [(0,.int .i64 1),(1,.bool false),(2,.bool false),(3,.slice a 0 c),(4,.slice b 1 d),(5,.int .i64 0)]
 case neg=>
  have g1b:(s == 1)=false:=by simpa using g1
  have hz0:=hid (show zeroV s=⟨s,false,noRat,0⟩ from by unfold zeroV;rw [if_neg g1])
  go_enter Tryz.func48,Tryz.ntmps48
  go_upto_region 4 with fail
  generalize (w.alloc (.cells #[.int .i64 0,.bool false,.bool false,.slice none 0 0,.slice none 0 0,.int .i64 0] 64)).alloc (.cells #[.int .i64 s,.bool false,.bool false,.slice none 0 0,.slice none 0 0,.int .i64 0] 64)=w0 at *
  have p0:=cell_p H0.out 0
  have p1:=cell_p H0.out 1
  have p2:=cell_p H0.out 2
  have p3:=cell_p H0.out 3
  have p4:=cell_p H0.out 4
  have p5:=cell_p H0.out 5
  have q0:=cell_p H1.out 0
  have q1:=cell_p H1.out 1
  have q2:=cell_p H1.out 2
  have q3:=cell_p H1.out 3
  have q4:=cell_p H1.out 4
  have q5:=cell_p H1.out 5
  have f0:=frz_p H0.out 0
  have f1:=frz_p H0.out 1
  have f2:=frz_p H0.out 2
  have f3:=frz_p H0.out 3
  have f4:=frz_p H0.out 4
  have f5:=frz_p H0.out 5
  simp only [List.getElem?_toArray,List.getElem?_cons_succ,List.getElem?_cons_zero] at p0 p1 p2 p3 p4 p5 q0 q1 q2 q3 q4 q5
  go_wp2
  refine bodyPost_ret (v:=valV ⟨s,false,noRat,0⟩ none 0 none 0) (by simp [results,Tryz.results48,go_sem,noRat, *]) rfl ?_
  rw [hz0.out]
  exact ValP.set (v:=⟨s,false,noRat,0⟩) (by decide) (by decide) H0.out (Nat.le_refl _) ⟨hS.out,(show okI 0 from⟨by decide,by decide⟩),.nil _ _ _ _,⟨Nat.le_refl _,Nat.zero_le _⟩,.nil _ _ _ _,⟨Nat.le_refl _,Nat.zero_le _⟩⟩ hB.out
   [(0,.int .i64 s),(1,.bool false),(2,.bool false),(3,.slice none 0 0),(4,.slice none 0 0),(5,.int .i64 0)]
section
variable {S S' : Nat → Prop}
theorem morder_any (op:Int) (a:Option Addr) (n c:Nat) (l:List ValD) (w:World) (h:SlR repV S w a n l) (h1:1≤n) (hc:n≤c) (hn:n≤1000000) (hs:∀v∈l,smallV v) :
  Calls Tryz.prog 142 #[.int .i64 op,.slice a n c] w fun e w'=>e = .returned (.bool (orderV op l))∧Below w.heap.size w w':=by
 have H:=hid h
 have hl:=hid h.1
 have hs':=hid hs
 obtain ⟨z,hz⟩:∃z,orderV op l=z:=⟨_,rfl⟩
 have hz0:=hid hz
 rw [hz]
 obtain ⟨m,rfl⟩:∃m,n=m+1:=⟨n - 1,by omega⟩
 have HD:=hid (H.out.fromK (k:=1) (by omega) hc)
 rw [show repV.k=6 from rfl,Nat.add_sub_cancel] at HD
 have hdl:=hid HD.out.1
 have hsl:=fun W=>run_fromK (a:=a) (n:=m+1) (c:=c) (k:=1) (by omega) hc W
 rw [show((1:Nat):Int)=1 from rfl,Nat.add_sub_cancel] at hsl
 generalize fromA a c 1 6=a' at *
 clear hz h hs
 go_enter Tryz.func142,Tryz.ntmps142
 go_wp2
 go_loopw [11,5,7] (fun v11 _ _ wr=>∃k:Nat,k≤m∧v11 = .int .i64 k∧Hid (orderV op (l.drop k)=z)∧Hid (Below w.heap.size w wr)) (fun v11 _ _ _=>m - (intOf v11).toNat)
 case atStart=>exact⟨0,Nat.zero_le _,rfl,by show orderV op (l.drop 0)=z;rw [List.drop_zero];exact hz0.out,Below.refl _ _⟩
 case round=>
  obtain ⟨k,hk,rfl,hE,hB⟩:=hrel
  by_cases hkn:k<m
  case neg=>
   obtain rfl:k=m:=by omega
   have hki:¬(k:Int)<k:=by omega
   have hv:=hid (show true=z from by rw [←hE.out,orderV_last (by rw [hl.out];omega)])
   go_wp2
   go_ret
   exact⟨ret_bool hv.out,hB.out⟩
  case pos=>
   have hki:(k:Int)<m:=by omega
   have hkk:(k:Int)<(m:Int)+1:=by omega
   have hek:=valAtL_eq (l:=l) (k:=k) (by rw [hl.out];omega)
   have hek1:=valAtL_eq (l:=l.drop 1) (k:=k) (by rw [hdl.out];omega)
   have hsx:=hid (hs'.out _ (List.mem_of_getElem? hek))
   have hsy:=hid (hs'.out _ (List.mem_of_mem_drop (List.mem_of_getElem? hek1)))
   have hE2:=hid (show(okCmp op (cmpR (valAtL l k).num (valAtL (l.drop 1) k).num) && orderV op (l.drop (k+1)))=z from by
    rw [valAtL_drop,Nat.add_comm 1 k,←orderV_drop (by rw [hl.out];omega)];exact hE.out)
   obtain ⟨b3,o3,a3,c3,e3,d3,rfl,V3,hv3⟩:=(H.out.below hB.out (Nat.le_refl _)).valAt hek
   obtain ⟨b4,o4,a4,c4,e4,d4,rfl,V4,hv4⟩:=(HD.out.below hB.out (Nat.le_refl _)).valAt hek1
   have y0:=hv4 0 _ rfl
   have y1:=hv4 1 _ rfl
   have y2:=hv4 2 _ rfl
   have y3:=hv4 3 _ rfl
   have y4:=hv4 4 _ rfl
   have y5:=hv4 5 _ rfl
   rw [Nat.add_zero] at y0
   have t2:=hv3 2 _ rfl
   have t3:=hv3 3 _ rfl
   have t4:=hv3 4 _ rfl
   have V3':=hid V3.rat
   have V4':=hid V4.rat
   clear hek hek1 hv3 hv4 hE V3 V4
   generalize valAtL l k=x at *
   generalize valAtL (l.drop 1) k=y at *
   obtain ⟨s,bo,⟨ng,nu,de⟩,el⟩:=x
   obtain ⟨t,bp,⟨mg,mu,me⟩,em⟩:=y
   dsimp only at *
   have bA:=hid ((Below.refl wr.heap.size wr).alloc (Nat.le_refl _) (.cells #[.int .i64 t,.bool bp,.bool mg,.slice a4 mu.length c4,.slice e4 me.length d4,.int .i64 em] 64))
   have hBA:=hid (hB.out.trans (bA.out.mono hB.out.size))
   have XA:=hid (heap_alloc_new wr (.cells #[.int .i64 t,.bool bp,.bool mg,.slice a4 mu.length c4,.slice e4 me.length d4,.int .i64 em] 64))
   have u2:=keep_cell bA.out t2
   have u3:=keep_cell bA.out t3
   have u4:=keep_cell bA.out t4
   go_upto_region 4 with fail
   generalize (wr.alloc (.cells #[.int .i64 t,.bool bp,.bool mg,.slice a4 mu.length c4,.slice e4 me.length d4,.int .i64 em] 64))=wA at *
   have hcp:=hid (fun W (hW:Below wA.heap.size wA W)=>rcmp2_any ⟨ng,nu,de⟩ ⟨mg,mu,me⟩ a3 e3 a4 e4 c3 d3 c4 d4 W ⟨(V3'.out.num.below bA.out (Nat.le_refl _)).below hW (Nat.le_refl _),V3'.out.nc,(V3'.out.den.below bA.out (Nat.le_refl _)).below hW (Nat.le_refl _),V3'.out.dc⟩ ⟨(V4'.out.num.below bA.out (Nat.le_refl _)).below hW (Nat.le_refl _),V4'.out.nc,(V4'.out.den.below bA.out (Nat.le_refl _)).below hW (Nat.le_refl _),V4'.out.dc⟩ hsx.out.1 hsx.out.2 hsy.out.1 hsy.out.2)
   have z2:=cell_p XA.out 2
   have z3:=cell_p XA.out 3
   have z4:=cell_p XA.out 4
   simp only [List.getElem?_toArray,List.getElem?_cons_succ,List.getElem?_cons_zero] at z2 z3 z4
   clear y0 y1 y2 y3 y4 y5 t2 t3 t4 XA
   have hcb:=hid (show -1≤cmpR ⟨ng,nu,de⟩ ⟨mg,mu,me⟩∧cmpR ⟨ng,nu,de⟩ ⟨mg,mu,me⟩≤1 from cmpR_bd _ _)
   generalize cmpR ⟨ng,nu,de⟩ ⟨mg,mu,me⟩=cm at *
   go_cut [7] from 16 to 23 (fun v7 wc=>v7 = .int .i64 cm∧Hid (Below w.heap.size w wc))
   case first=>
    refine wp_region_tt (S:=fun W=>Below wA.heap.size wA W) 8 (by kernel_rfl) (by kernel_rfl) (keep_drew wA) (fun _=>?_)
    refine tk (i:=0) (h:=?_)
    (try simp only [Act.put,sA,sB,sC])
    refine tk (i:=1) (h:=?_)
    (try simp only [Act.put,sA,sB,sC])
    refine tk (i:=2) (h:=?_)
    (try simp only [Act.put,sA,sB,sC])
    refine tk (i:=3) (h:=?_)
    (try simp only [Act.put,sA,sB,sC])
    refine tk (i:=4) (hy:=(Or.inl ⟨by rfl,by(intro W hSw;have hq2:=keep_cell hSw u2;have hq3:=keep_cell hSw u3;have hq4:=keep_cell hSw u4;go_simp <;> with_reducible rfl)⟩)) (h:=?_)
    (try simp only [Act.put,sA,sB,sC])
    refine tk (i:=5) (h:=?_)
    (try simp only [Act.put,sA,sB,sC])
    refine tk (i:=6) (hy:=(Or.inl ⟨by rfl,by(intro W hSw;have hq2:=keep_cell hSw z2;have hq3:=keep_cell hSw z3;have hq4:=keep_cell hSw z4;go_simp <;> with_reducible rfl)⟩)) (h:=?_)
    (try simp only [Act.put,sA,sB,sC])
    refine tt_ready (rs:=[7]) (by decide +kernel) (allT_cons (by rfl) (fun K hK=>?_) allT_nil)
    go_simp
    go_at_call 180
    refine(hcp.out _ (keep_drew wA)).mono ?_
    rintro ee w9 ⟨rfl,b9⟩
    have B9:Below wA.heap.size wA w9:=(keep_drew wA).trans (b9.mono (keep_drew wA).size)
    clear b9 hcp
    dsimp only
    refine hK.out _ _ (by(exact B9)) (fun hHeld2=>?_)
    clear hK K
    (try simp only [Act.put,sA,sB,sC])
    refine tt_tail (by decide +kernel) ?_
    simp only [List.drop_succ_cons,List.drop_zero]
    have BC:=hid (hBA.out.trans (B9.mono hBA.out.size))
    clear B9 u2 u3 u4 z2 z3 z4
    go_wp2
    go_meet
    case rel=>exact⟨rfl,BC.out⟩
   case rest=>
    obtain ⟨rfl,hW⟩:=hcut
    clear hcp u2 u3 u4 z2 z3 z4 hBA bA
    go_upto_region 5 with fail
    go_cut [57] from 24 to 57 (fun v57 wd=>v57 = .bool (!okCmp op cm)∧wd=wc)
    case first=>
     rcases (show cm = -1∨cm=0∨cm=1 from by have:=hcb.out;omega) with rfl | rfl | rfl
     ·by_cases e1:op=17
      ·subst e1
       have hok:=hid (show okCmp 17 (-1)=true from by decide)
       go_wp2
       go_meet
       case rel=>exact⟨by rw [hok.out];rfl,rfl⟩
      ·have e1b:(op != 17)=true:=by simpa using e1
       have e1d:decide (op=17)=false:=decide_eq_false e1
       by_cases e2:op=18
       ·subst e2
        have hok:=hid (show okCmp 18 (-1)=true from by decide)
        go_wp2
        go_meet
        case rel=>exact⟨by rw [hok.out];rfl,rfl⟩
       ·have e2b:(op != 18)=true:=by simpa using e2
        have e2d:decide (op=18)=false:=decide_eq_false e2
        have hok:=hid (show okCmp op (-1)=false from by unfold okCmp;simp [e1,e2])
        go_wp2
        go_meet
        case rel=>exact⟨by rw [hok.out];rfl,rfl⟩
     ·by_cases e1:op=17
      ·subst e1
       have hok:=hid (show okCmp 17 (0)=true from by decide)
       go_wp2
       go_meet
       case rel=>exact⟨by rw [hok.out];rfl,rfl⟩
      ·have e1b:(op != 17)=true:=by simpa using e1
       have e1d:decide (op=17)=false:=decide_eq_false e1
       by_cases e2:op=19
       ·subst e2
        have hok:=hid (show okCmp 19 (0)=true from by decide)
        go_wp2
        go_meet
        case rel=>exact⟨by rw [hok.out];rfl,rfl⟩
       ·have e2b:(op != 19)=true:=by simpa using e2
        have e2d:decide (op=19)=false:=decide_eq_false e2
        have hok:=hid (show okCmp op (0)=false from by unfold okCmp;simp [e1,e2])
        go_wp2
        go_meet
        case rel=>exact⟨by rw [hok.out];rfl,rfl⟩
     ·by_cases e1:op=19
      ·subst e1
       have hok:=hid (show okCmp 19 (1)=true from by decide)
       go_wp2
       go_meet
       case rel=>exact⟨by rw [hok.out];rfl,rfl⟩
      ·have e1b:(op != 19)=true:=by simpa using e1
       have e1d:decide (op=19)=false:=decide_eq_false e1
       by_cases e2:op=20
       ·subst e2
        have hok:=hid (show okCmp 20 (1)=true from by decide)
        go_wp2
        go_meet
        case rel=>exact⟨by rw [hok.out];rfl,rfl⟩
       ·have e2b:(op != 20)=true:=by simpa using e2
        have e2d:decide (op=20)=false:=decide_eq_false e2
        have hok:=hid (show okCmp op (1)=false from by unfold okCmp;simp [e1,e2])
        go_wp2
        go_meet
        case rel=>exact⟨by rw [hok.out];rfl,rfl⟩
    case rest=>
     obtain ⟨rfl,rfl⟩:=hcut
     cases hok:okCmp op cm
     case true=>
      have hE3:=hid (show orderV op (l.drop (k+1))=z from by rw [←hE2.out,hok];rfl)
      clear hE2 hok
      go_wp2
      go_roundw
      case rel=>exact⟨k+1,by omega,by go_num,hE3.out,hW.out⟩
      case measure=>first | (simp [intOf];done) | (simp [intOf];omega)
     case false=>
      have hv:=hid (show false=z from by rw [←hE2.out,hok];rfl)
      clear hE2 hok
      go_wp2
      go_ret
      exact⟨ret_bool hv.out,hW.out⟩
end
def OldF (S:Nat→Prop) (w W:World) (k:Nat):Prop:=(k<w.heap.size∧S k)∨DatF w.heap.size W k
def cntS (op:Int) (a b:RatD):RatD × Int:=if op=13 then addR a b else if op=14 then subR a b else if op=15 then mulR a b else if op=16 then quoR a b else(a,0)
def countL (op:Int):RatD→List ValD→RatD × Int
 | a,[]=>(a,0)
 | a,v :: l=>if (cntS op a v.num).2=0 then countL op (cntS op a v.num).1 l else cntS op a v.num
def countV (op:Int) (l:List ValD):RatD × Int:=if op=14∧l.length=1 then(negR (valAtL l 0).num,0) else countL op (valAtL l 0).num (l.drop 1)
def smallR (r:RatD):Prop:=r.num.length≤1000000∧r.den.length≤1000000
theorem smallR_0:smallR rat0:=⟨by decide,by decide⟩
theorem smallR_lowest (ng:Bool) (n d:Nat):smallR (lowestR ng n d).1:=by
 unfold lowestR
 split
 ·exact smallR_0
 case isFalse h=>
  unfold bigR at h
  simp only [Bool.or_eq_true,decide_eq_true_eq,not_or] at h
  exact⟨by show(ratN ng n d).num.length≤_;omega,by show(ratN ng n d).den.length≤_;omega⟩
theorem smallR_add (a b:RatD):smallR (addR a b).1:=by
 unfold addR
 split
 ·exact smallR_lowest _ _ _
 ·exact smallR_0
theorem smallR_sub (a b:RatD):smallR (subR a b).1:=by
 unfold subR
 split
 ·exact smallR_add _ _
 ·exact smallR_0
theorem smallR_mul (a b:RatD):smallR (mulR a b).1:=by
 unfold mulR
 split
 ·exact smallR_lowest _ _ _
 ·exact smallR_0
theorem smallR_quo (a b:RatD):smallR (quoR a b).1:=by
 unfold quoR
 split
 ·exact smallR_lowest _ _ _
 ·exact smallR_0
theorem countL_drop {op:Int} {r:RatD} {l:List ValD} {k:Nat} (hk:k<l.length):countL op r (l.drop k)=if (cntS op r (valAtL l k).num).2=0 then countL op (cntS op r (valAtL l k).num).1 (l.drop (k+1)) else cntS op r (valAtL l k).num:=by
 rw [List.drop_eq_getElem_cons hk]
 have:l[k]=valAtL l k:=by have:=valAtL_eq hk;rw [List.getElem?_eq_getElem hk] at this;injection this
 rw [this];rfl
section
variable {S S' : Nat → Prop} {w W W' : World} {r : RatD} {a b : Option Addr} {c d : Nat}
theorem RatS.keep (h:RatS S W r a c b d) (hk:∀k,k<W.heap.size→S k→W'.heap[k]? = W.heap[k]?) (hs:W.heap.size≤W'.heap.size):RatS S W' r a c b d:=⟨h.num.keep hk hs,h.nc,h.den.keep hk hs,h.dc⟩
theorem RatS.mono (h:RatS S W r a c b d) (hk:∀k,k<W.heap.size→S k→S' k):RatS S' W r a c b d:=⟨h.num.mono hk,h.nc,h.den.mono hk,h.dc⟩
theorem RatS.below {B:Nat} (h:RatS S W r a c b d) (hb:Below B W W') (hB:W.heap.size≤B):RatS S W' r a c b d:=⟨h.num.below hb hB,h.nc,h.den.below hb hB,h.dc⟩
theorem RatS.old (h:RatS S w r a c b d):RatS (OldF S w w) w r a c b d:=h.mono fun _ hk hS=>.inl ⟨hk,hS⟩
theorem RatS.move (h:RatS (OldF S w W) W r a c b d) (hk:∀k,k<w.heap.size∨DatB W k→W'.heap[k]? = W.heap[k]?) (hs:W.heap.size≤W'.heap.size):RatS (OldF S w W') W' r a c b d:=
 (h.keep (fun k _ hS=>hk k (hS.elim (fun h=>.inl h.1) fun h=>.inr h.1)) hs).mono fun k _ hS=>hS.elim .inl fun h=>.inr ⟨h.1.same (hk k (.inr h.1)),h.2⟩
theorem RatS.moveBelow {B:Nat} (h:RatS (OldF S w W) W r a c b d) (hb:Below B W W') (hB:W.heap.size≤B) (hw:w.heap.size≤W.heap.size):RatS (OldF S w W') W' r a c b d:=
 h.move (fun k hk=>hb.block k (Nat.lt_of_lt_of_le (hk.elim (fun h=>Nat.lt_of_lt_of_le h hw) DatB.lt) hB)) hb.size
theorem RatS.moveSet {p:Nat} {cs:Array Value} {t:TypeId} (h:RatS (OldF S w W) W r a c b d) (h1:t≠3) (h2:t≠177) (hp:W.heap[p]? = some (.cells cs t (0,0))) (hwp:w.heap.size≤p) (l:List (Nat × Value)):RatS (OldF S w (setL p l W)) (setL p l W) r a c b d:=by
 obtain ⟨q1,q2,_⟩:=setL_dat h1 h2 l W cs hp
 exact h.move (fun k hk=>hk.elim (fun h=>setL_other (by omega) _ _) (q1 k)) (Nat.le_of_eq q2.symm)
structure CntJ (S:Nat→Prop) (w W:World) (r:RatD) (a:Option Addr) (c:Nat) (b:Option Addr) (d:Nat):Prop where
 x:W.heap[w.heap.size]? = some (.cells #[.bool r.neg,.slice a r.num.length c,.slice b r.den.length d] 36 (0,0))
 v:RatS (OldF S w W) W r a c b d
 b:Below w.heap.size w W
 s:smallR r
def CntP (S:Nat→Prop) (r:RatD × Int) (w:World) (e:Ending) (w':World):Prop:=∃a c b d,e = .returned (.tuple #[ratV r.1 a c b d,.int .i64 r.2])∧RatS (OldF S w w') w' r.1 a c b d∧Below w.heap.size w w'
theorem CntJ.set {v0 v1 v2:Value} (hp:W.heap[w.heap.size]? = some (.cells #[v0,v1,v2] 36 (0,0))) (v:RatS (OldF S w W) W r a c b d) (hb:Below w.heap.size w W) (s:smallR r):CntJ S w (setL w.heap.size [(0,.bool r.neg),(1,.slice a r.num.length c),(2,.slice b r.den.length d)] W) r a c b d:=
 ⟨(setL_heap _ W _ hp).trans rfl,v.moveSet (by decide) (by decide) hp (Nat.le_refl _) _,(setL_dat (by decide) (by decide) _ W _ hp).2.2 _ _ (Nat.le_refl _) hb,s⟩
theorem CntJ.out {R:RatD × Int} (h:CntJ S w W R.1 a c b d) (l:List (Nat × Value)):CntP S R w (.returned (.tuple #[ratV R.1 a c b d,.int .i64 R.2])) (setL w.heap.size l W):=
 ⟨a,c,b,d,rfl,h.v.moveSet (by decide) (by decide) h.x (Nat.le_refl _) l,(setL_dat (by decide) (by decide) l W _ h.x).2.2 _ _ (Nat.le_refl _) h.b⟩
theorem mcount_any (op:Int) (a:Option Addr) (n c:Nat) (l:List ValD) (w:World) (h:SlR repV S w a n l) (h1:1≤n) (hc:n≤c) (hn:n≤1000000) (hs:∀v∈l,smallV v) :
  Calls Tryz.prog 143 #[.int .i64 op,.slice a n c] w fun e w'=>CntP S (countV op l) w e w':=by
 have H:=hid h
 have hl:=hid h.1
 have hs':=hid hs
 obtain ⟨z,hz⟩:∃z,countV op l=z:=⟨_,rfl⟩
 have hz0:=hid (show(if op=14∧n=1 then(negR (valAtL l 0).num,0) else countL op (valAtL l 0).num (l.drop 1))=z from by rw [←hz,←h.1];rfl)
 rw [hz]
 have he0:=valAtL_eq (l:=l) (k:=0) (by rw [h.1];omega)
 obtain ⟨b0,o0,a0,c0,e0,d0,rfl,V0,hv0⟩:=h.valAt he0
 have hs0:smallR (valAtL l 0).num:=hs _ (List.mem_of_getElem? he0)
 have q2:w.cell? ⟨b0,o0+2,none⟩=some (.bool (valAtL l 0).num.neg):=by have:=hv0 2 _ rfl;rwa [Nat.zero_mul,Nat.add_zero] at this
 have q3:w.cell? ⟨b0,o0+3,none⟩=some (.slice a0 (valAtL l 0).num.num.length c0):=by have:=hv0 3 _ rfl;rwa [Nat.zero_mul,Nat.add_zero] at this
 have q4:w.cell? ⟨b0,o0+4,none⟩=some (.slice e0 (valAtL l 0).num.den.length d0):=by have:=hv0 4 _ rfl;rwa [Nat.zero_mul,Nat.add_zero] at this
 have V0':=hid V0.rat
 obtain ⟨m,rfl⟩:∃m,n=m+1:=⟨n - 1,by omega⟩
 have HD:=hid (H.out.fromK (k:=1) (by omega) hc)
 rw [show repV.k=6 from rfl,Nat.add_sub_cancel] at HD
 have hdl:=hid HD.out.1
 have hsl:=fun W=>run_fromK (a:=some ⟨b0,o0,none⟩) (n:=m+1) (c:=c) (k:=1) (by omega) hc W
 rw [show((1:Nat):Int)=1 from rfl,Nat.add_sub_cancel] at hsl
 have hsd:=hid (show ∀v∈l.drop 1,smallV v from fun v hv=>hs v (List.mem_of_mem_drop hv))
 generalize fromA (some ⟨b0,o0,none⟩) c 1 6=a' at *
 clear hz h hs hv0 he0 V0 hs'
 generalize (valAtL l 0).num=r0 at *
 generalize l.drop 1=l' at *
 clear H hl
 obtain ⟨ng,nu,de⟩:=r0
 dsimp only at *
 have X0:=hid (heap_alloc_new w (.cells #[.bool false,.slice none 0 0,.slice none 0 0] 36))
 have bA:=hid (show Below w.heap.size w (w.alloc (.cells #[.bool false,.slice none 0 0,.slice none 0 0] 36)) from(Below.refl w.heap.size w).alloc (Nat.le_refl _) _)
 generalize hw0:w.alloc (.cells #[.bool false,.slice none 0 0,.slice none 0 0] 36)=w0 at *
 replace q2:=keep_cell bA.out q2
 replace q3:=keep_cell bA.out q3
 replace q4:=keep_cell bA.out q4
 have f0:=frz_p X0.out 0
 have f1:=frz_p X0.out 1
 have f2:=frz_p X0.out 2
 have z0:=cell_p X0.out 0
 have z1:=cell_p X0.out 1
 have z2:=cell_p X0.out 2
 simp only [List.getElem?_toArray,List.getElem?_cons_succ,List.getElem?_cons_zero] at z0 z1 z2
 have J0:=hid (CntJ.set (S:=S) (r:=⟨ng,nu,de⟩) X0.out (V0'.out.old.moveBelow bA.out (Nat.le_refl _) (Nat.le_refl _)) bA.out hs0)
 have hw0':=hid hw0
 go_enter Tryz.func143,Tryz.ntmps143
 go_upto_region 2 with fail
 have J1:Hid (CntJ S w (((w0.setCell ⟨w.heap.size,0,none⟩ (.bool ng)).setCell ⟨w.heap.size,1,none⟩ (.slice a0 nu.length c0)).setCell ⟨w.heap.size,2,none⟩ (.slice e0 de.length d0)) ⟨ng,nu,de⟩ a0 c0 e0 d0):=J0
 generalize ((w0.setCell ⟨w.heap.size,0,none⟩ (.bool ng)).setCell ⟨w.heap.size,1,none⟩ (.slice a0 nu.length c0)).setCell ⟨w.heap.size,2,none⟩ (.slice e0 de.length d0)=w1 at *
 clear J0 hw0 hw0' q2 q3 q4 z0 z1 z2 f0 f1 f2 X0
 go_cut [18] from 12 to 18 (fun v18 wc=>v18 = .bool (decide (op=14∧m=0))∧wc=w1)
 case first=>
  by_cases h14:op=14
  ·subst h14
   by_cases hm:m=0
   ·subst hm
    go_wp2
    go_meet
    case rel=>exact⟨rfl,rfl⟩
   ·have hmb:((m:Int)+1 == 1)=false:=by simp;omega
    have hmd:decide ((m:Int)+1=1)=false:=by simp;omega
    have hme:¬(m:Int)+1=1:=by omega
    have hv:=hid (show decide ((14:Int)=14∧m=0)=false from decide_eq_false fun h=>hm h.2)
    go_wp2
    go_meet
    case rel=>exact⟨by rw [hv.out],rfl⟩
  ·have h14b:(op == 14)=false:=by simpa using h14
   have h14d:decide (op=14)=false:=decide_eq_false h14
   have hv:=hid (show decide (op=14∧m=0)=false from decide_eq_false fun h=>h14 h.1)
   go_wp2
   go_meet
   case rel=>exact⟨by rw [hv.out],rfl⟩
 case rest=>
  obtain ⟨rfl,rfl⟩:=hcut
  by_cases h14:op=14∧m=0
  ·obtain ⟨rfl,rfl⟩:=h14
   have hv:=hid (show decide ((14:Int)=14∧(0:Nat)=0)=true from rfl)
   have hz1:=hid (show(negR ⟨ng,nu,de⟩,(0:Int))=z from hz0.out)
   have hsz:=hid (J1.out.b.size)
   have hng:=hid (rneg_any ⟨ng,nu,de⟩ a0 e0 c0 d0 wc J1.out.v hs0.1 hs0.2)
   have hnl:=hid (show smallR (negR ⟨ng,nu,de⟩) from by unfold negR;split <;> first | exact hs0 | exact smallR_0)
   generalize negR ⟨ng,nu,de⟩=nn at *
   obtain ⟨R1,R2,R3⟩:=nn
   have z0:=cell_p J1.out.x 0
   have z1:=cell_p J1.out.x 1
   have z2:=cell_p J1.out.x 2
   simp only [List.getElem?_toArray,List.getElem?_cons_succ,List.getElem?_cons_zero] at z0 z1 z2
   go_wp2_with fail
   refine hng.out.mono ?_
   rintro ee w9 ⟨a9,c9,b9,d9,rfl,p1,p2,p3,p4,hb9⟩
   have x9:=(hb9.block _ (Array.getElem?_eq_some_iff.1 J1.out.x).1).trans J1.out.x
   have V9:RatS (OldF S w w9) w9 ⟨R1,R2,R3⟩ a9 c9 b9 d9:=⟨p1.mono fun k _ h=>.inr ⟨h.1,Nat.le_trans hsz.out h.2⟩,p3,p2.mono fun k _ h=>.inr ⟨h.1,Nat.le_trans hsz.out h.2⟩,p4⟩
   have J9:=hid (CntJ.set x9 V9 (J1.out.b.trans (hb9.mono J1.out.b.size)) hnl.out)
   have f0:=frz_p x9 0
   have f1:=frz_p x9 1
   have f2:=frz_p x9 2
   replace z0:=cell_p x9 0
   replace z1:=cell_p x9 1
   replace z2:=cell_p x9 2
   simp only [List.getElem?_toArray,List.getElem?_cons_succ,List.getElem?_cons_zero] at z0 z1 z2
   clear x9 V9 p1 p2 p3 p4 hb9 hng J1
   go_wp2
   refine bodyPost_ret (v:=.tuple #[ratV ⟨R1,R2,R3⟩ a9 c9 b9 d9,.int .i64 0]) (by simp [results,Tryz.results143,go_sem, *]) rfl ?_
   rw [←hz1.out]
   exact CntJ.out (R:=(⟨R1,R2,R3⟩,0)) J9.out []
  ·have hv:=hid (show decide (op=14∧m=0)=false from decide_eq_false h14)
   rw [hv.out]
   have hz1:=hid (show countL op ⟨ng,nu,de⟩ l'=z from by rw [←hz0.out,if_neg (fun h=>h14 ⟨h.1,by omega⟩)])
   clear hz0 hv h14
   go_wp2
   go_loopw [24,5] (fun v24 v5 wr=>∃(k:Nat) (r:RatD) (a3:Option Addr) (c3:Nat) (e3:Option Addr) (d3:Nat),k≤m∧v24 = .int .i64 k∧v5 = .int .i64 0∧Hid (countL op r (l'.drop k)=z)∧Hid (CntJ S w wr r a3 c3 e3 d3)) (fun v24 _ _=>m - (intOf v24).toNat)
   case atStart=>exact⟨0,_,_,_,_,_,Nat.zero_le _,rfl,rfl,by show countL op _ (l'.drop 0)=z;rw [List.drop_zero];exact hz1.out,J1⟩
   case round=>
    obtain ⟨k,r,a1,c1,e1,d1,hk,rfl,rfl,hE,J⟩:=hrel
    clear J1 hz1 hs0 V0'
    obtain ⟨ng,nu,de⟩:=r
    have hs1:=J.out.s
    have V1:=hid J.out.v
    have B1:=hid J.out.b
    have z0:=cell_p J.out.x 0
    have z1:=cell_p J.out.x 1
    have z2:=cell_p J.out.x 2
    simp only [List.getElem?_toArray,List.getElem?_cons_succ,List.getElem?_cons_zero] at z0 z1 z2
    by_cases hkn:k<m
    case neg=>
     obtain rfl:k=m:=by omega
     have hki:¬(k:Int)<k:=by omega
     have hv:=hid (show((⟨ng,nu,de⟩:RatD),(0:Int))=z from by rw [←hE.out,List.drop_of_length_le (by rw [hdl.out];exact Nat.le_refl _)];rfl)
     have f0:=frz_p J.out.x 0
     have f1:=frz_p J.out.x 1
     have f2:=frz_p J.out.x 2
     go_wp2
     refine bodyPost_ret (v:=.tuple #[ratV ⟨ng,nu,de⟩ a1 c1 e1 d1,.int .i64 0]) (by simp [results,Tryz.results143,go_sem, *]) rfl ?_
     rw [←hv.out]
     exact CntJ.out (R:=(⟨ng,nu,de⟩,0)) J.out [(0,.bool ng),(1,.slice a1 nu.length c1),(2,.slice e1 de.length d1)]
    case pos=>
     have hki:(k:Int)<m:=by omega
     have hek:=valAtL_eq (l:=l') (k:=k) (by rw [hdl.out];omega)
     have hsx:=hsd.out _ (List.mem_of_getElem? hek)
     have hE2:=hid ((countL_drop (op:=op) (r:=⟨ng,nu,de⟩) (l:=l') (k:=k) (by rw [hdl.out];omega)).symm.trans hE.out)
     obtain ⟨b3,o3,a3,c3,e3,d3,rfl,V3,hv3⟩:=(HD.out.below B1.out (Nat.le_refl _)).valAt hek
     have y0:=hv3 0 _ rfl
     have y1:=hv3 1 _ rfl
     have y2:=hv3 2 _ rfl
     have y3:=hv3 3 _ rfl
     have y4:=hv3 4 _ rfl
     have y5:=hv3 5 _ rfl
     rw [Nat.add_zero] at y0
     have V3':=hid V3.rat
     clear hek hv3 hE V3
     generalize valAtL l' k=x at *
     obtain ⟨s,bo,⟨mg,mu,me⟩,em⟩:=x
     dsimp only at *
     have bA:=hid ((Below.refl wr.heap.size wr).alloc (Nat.le_refl _) (.cells #[.int .i64 s,.bool bo,.bool mg,.slice a3 mu.length c3,.slice e3 me.length d3,.int .i64 em] 64))
     have XA:=hid (heap_alloc_new wr (.cells #[.int .i64 s,.bool bo,.bool mg,.slice a3 mu.length c3,.slice e3 me.length d3,.int .i64 em] 64))
     have xA:=hid ((bA.out.block _ (Array.getElem?_eq_some_iff.1 J.out.x).1).trans J.out.x)
     go_upto_region 7 with fail
     generalize (wr.alloc (.cells #[.int .i64 s,.bool bo,.bool mg,.slice a3 mu.length c3,.slice e3 me.length d3,.int .i64 em] 64))=wA at *
     have hR:=hid (fun W (hW:Below wA.heap.size wA W)=>(V1.out.below bA.out (Nat.le_refl _)).below hW (Nat.le_refl _))
     have hR':=hid (fun W (hW:Below wA.heap.size wA W)=>(V3'.out.below bA.out (Nat.le_refl _)).below hW (Nat.le_refl _))
     have u2:=cell_p XA.out 2
     have u3:=cell_p XA.out 3
     have u4:=cell_p XA.out 4
     simp only [List.getElem?_toArray,List.getElem?_cons_succ,List.getElem?_cons_zero] at u2 u3 u4
     replace z0:=keep_cell bA.out z0
     replace z1:=keep_cell bA.out z1
     replace z2:=keep_cell bA.out z2
     have BA:=hid (B1.out.trans (bA.out.mono B1.out.size))
     have JA:=hid (show CntJ S w wA ⟨ng,nu,de⟩ a1 c1 e1 d1 from⟨xA.out,V1.out.moveBelow bA.out (Nat.le_refl _) B1.out.size,BA.out,hs1⟩)
     clear y0 y1 y2 y3 y4 y5 XA J V1 V3' B1 bA
     by_cases h13:op=13
     case pos=>
      subst h13
      have hE3:=hid (show(if (addR ⟨ng,nu,de⟩ ⟨mg,mu,me⟩).2=0 then countL 13 (addR ⟨ng,nu,de⟩ ⟨mg,mu,me⟩).1 (l'.drop (k+1)) else addR ⟨ng,nu,de⟩ ⟨mg,mu,me⟩)=z from hE2.out)
      have hsm:=hid (smallR_add ⟨ng,nu,de⟩ ⟨mg,mu,me⟩)
      have hcp:=hid (fun W (hW:Below wA.heap.size wA W)=>radd_any ⟨ng,nu,de⟩ ⟨mg,mu,me⟩ a1 e1 a3 e3 c1 d1 c3 d3 W (hR.out W hW) (hR'.out W hW) hs1.1 hs1.2 hsx.1 hsx.2)
      generalize addR ⟨ng,nu,de⟩ ⟨mg,mu,me⟩=res at *
      obtain ⟨⟨R1,R2,R3⟩,er⟩:=res
      clear hE2
      go_wp2_with fail
      refine(hcp.out wA (Below.refl _ _)).mono ?_
      rintro ee w9 ⟨v9,rfl,a9,c9,b9,d9,hv9,p1,p2,p3,p4,B9⟩
      cases hv9
      have V9':=hid (show RatS (OldF S w w9) w9 ⟨R1,R2,R3⟩ a9 c9 b9 d9 from⟨p1.mono fun k _ h=>.inr ⟨h.1,Nat.le_trans BA.out.size h.2⟩,p3,p2.mono fun k _ h=>.inr ⟨h.1,Nat.le_trans BA.out.size h.2⟩,p4⟩)
      clear p1 p2 p3 p4 hcp
      dsimp only
      have x9:=(B9.block _ (Array.getElem?_eq_some_iff.1 xA.out).1).trans xA.out
      have J9:=hid (CntJ.set x9 V9'.out (BA.out.trans (B9.mono BA.out.size)) hsm.out)
      have f0:=frz_p x9 0
      have f1:=frz_p x9 1
      have f2:=frz_p x9 2
      replace z0:=cell_p x9 0
      replace z1:=cell_p x9 1
      replace z2:=cell_p x9 2
      simp only [List.getElem?_toArray,List.getElem?_cons_succ,List.getElem?_cons_zero] at z0 z1 z2
      clear x9 V9' B9 u2 u3 u4 hR hR' hsm JA
      go_upto_region 16 with fail
      have JB:Hid (CntJ S w (((w9.setCell ⟨w.heap.size,0,none⟩ (.bool R1)).setCell ⟨w.heap.size,1,none⟩ (.slice a9 R2.length c9)).setCell ⟨w.heap.size,2,none⟩ (.slice b9 R3.length d9)) ⟨R1,R2,R3⟩ a9 c9 b9 d9):=J9
      generalize ((w9.setCell ⟨w.heap.size,0,none⟩ (.bool R1)).setCell ⟨w.heap.size,1,none⟩ (.slice a9 R2.length c9)).setCell ⟨w.heap.size,2,none⟩ (.slice b9 R3.length d9)=wB at *
      clear J9 z0 z1 z2 f0 f1 f2
      have z0:=cell_p JB.out.x 0
      have z1:=cell_p JB.out.x 1
      have z2:=cell_p JB.out.x 2
      have f0:=frz_p JB.out.x 0
      have f1:=frz_p JB.out.x 1
      have f2:=frz_p JB.out.x 2
      simp only [List.getElem?_toArray,List.getElem?_cons_succ,List.getElem?_cons_zero] at z0 z1 z2
      by_cases her:er=0
      case pos=>
       subst her
       have hE4:=hid (show countL 13 ⟨R1,R2,R3⟩ (l'.drop (k+1))=z from hE3.out)
       go_wp2
       go_roundw
       case rel=>exact⟨k+1,⟨R1,R2,R3⟩,_,_,_,_,by omega,by go_num,rfl,hE4.out,JB.out⟩
       case measure=>first | (simp [intOf];done) | (simp [intOf];omega)
      case neg=>
       have heb:(er == 0)=false:=by simpa using her
       have hen:(er != 0)=true:=by simpa using her
       have hed:decide (er=0)=false:=decide_eq_false her
       have hE4:=hid (show((⟨R1,R2,R3⟩:RatD),er)=z from by rw [←hE3.out];exact(if_neg her).symm)
       go_wp2
       refine bodyPost_ret (v:=.tuple #[ratV ⟨R1,R2,R3⟩ a9 c9 b9 d9,.int .i64 er]) (by simp [results,Tryz.results143,go_sem, *]) rfl ?_
       rw [←hE4.out]
       exact CntJ.out (R:=(⟨R1,R2,R3⟩,er)) JB.out [(0,.bool R1),(1,.slice a9 R2.length c9),(2,.slice b9 R3.length d9)]
     case neg=>
      have h13b:(op == 13)=false:=by simpa using h13
      have h13d:decide (op=13)=false:=decide_eq_false h13
      by_cases h14:op=14
      case pos=>
       subst h14
       have hE3:=hid (show(if (subR ⟨ng,nu,de⟩ ⟨mg,mu,me⟩).2=0 then countL 14 (subR ⟨ng,nu,de⟩ ⟨mg,mu,me⟩).1 (l'.drop (k+1)) else subR ⟨ng,nu,de⟩ ⟨mg,mu,me⟩)=z from hE2.out)
       have hsm:=hid (smallR_sub ⟨ng,nu,de⟩ ⟨mg,mu,me⟩)
       have hcp:=hid (fun W (hW:Below wA.heap.size wA W)=>rsub_any2 ⟨ng,nu,de⟩ ⟨mg,mu,me⟩ a1 e1 a3 e3 c1 d1 c3 d3 W (hR.out W hW) (hR'.out W hW) hs1.1 hs1.2 hsx.1 hsx.2)
       generalize subR ⟨ng,nu,de⟩ ⟨mg,mu,me⟩=res at *
       obtain ⟨⟨R1,R2,R3⟩,er⟩:=res
       clear hE2
       go_wp2_with fail
       refine(hcp.out wA (Below.refl _ _)).mono ?_
       rintro ee w9 ⟨v9,rfl,a9,c9,b9,d9,hv9,p1,p2,p3,p4,B9⟩
       cases hv9
       have V9':=hid (show RatS (OldF S w w9) w9 ⟨R1,R2,R3⟩ a9 c9 b9 d9 from⟨p1.mono fun k _ h=>.inr ⟨h.1,Nat.le_trans BA.out.size h.2⟩,p3,p2.mono fun k _ h=>.inr ⟨h.1,Nat.le_trans BA.out.size h.2⟩,p4⟩)
       clear p1 p2 p3 p4 hcp
       dsimp only
       have x9:=(B9.block _ (Array.getElem?_eq_some_iff.1 xA.out).1).trans xA.out
       have J9:=hid (CntJ.set x9 V9'.out (BA.out.trans (B9.mono BA.out.size)) hsm.out)
       have f0:=frz_p x9 0
       have f1:=frz_p x9 1
       have f2:=frz_p x9 2
       replace z0:=cell_p x9 0
       replace z1:=cell_p x9 1
       replace z2:=cell_p x9 2
       simp only [List.getElem?_toArray,List.getElem?_cons_succ,List.getElem?_cons_zero] at z0 z1 z2
       clear x9 V9' B9 u2 u3 u4 hR hR' hsm JA
       go_upto_region 16 with fail
       have JB:Hid (CntJ S w (((w9.setCell ⟨w.heap.size,0,none⟩ (.bool R1)).setCell ⟨w.heap.size,1,none⟩ (.slice a9 R2.length c9)).setCell ⟨w.heap.size,2,none⟩ (.slice b9 R3.length d9)) ⟨R1,R2,R3⟩ a9 c9 b9 d9):=J9
       generalize ((w9.setCell ⟨w.heap.size,0,none⟩ (.bool R1)).setCell ⟨w.heap.size,1,none⟩ (.slice a9 R2.length c9)).setCell ⟨w.heap.size,2,none⟩ (.slice b9 R3.length d9)=wB at *
       clear J9 z0 z1 z2 f0 f1 f2
       have z0:=cell_p JB.out.x 0
       have z1:=cell_p JB.out.x 1
       have z2:=cell_p JB.out.x 2
       have f0:=frz_p JB.out.x 0
       have f1:=frz_p JB.out.x 1
       have f2:=frz_p JB.out.x 2
       simp only [List.getElem?_toArray,List.getElem?_cons_succ,List.getElem?_cons_zero] at z0 z1 z2
       by_cases her:er=0
       case pos=>
        subst her
        have hE4:=hid (show countL 14 ⟨R1,R2,R3⟩ (l'.drop (k+1))=z from hE3.out)
        go_wp2
        go_roundw
        case rel=>exact⟨k+1,⟨R1,R2,R3⟩,_,_,_,_,by omega,by go_num,rfl,hE4.out,JB.out⟩
        case measure=>first | (simp [intOf];done) | (simp [intOf];omega)
       case neg=>
        have heb:(er == 0)=false:=by simpa using her
        have hen:(er != 0)=true:=by simpa using her
        have hed:decide (er=0)=false:=decide_eq_false her
        have hE4:=hid (show((⟨R1,R2,R3⟩:RatD),er)=z from by rw [←hE3.out];exact(if_neg her).symm)
        go_wp2
        refine bodyPost_ret (v:=.tuple #[ratV ⟨R1,R2,R3⟩ a9 c9 b9 d9,.int .i64 er]) (by simp [results,Tryz.results143,go_sem, *]) rfl ?_
        rw [←hE4.out]
        exact CntJ.out (R:=(⟨R1,R2,R3⟩,er)) JB.out [(0,.bool R1),(1,.slice a9 R2.length c9),(2,.slice b9 R3.length d9)]
      case neg=>
       have h14b:(op == 14)=false:=by simpa using h14
       have h14d:decide (op=14)=false:=decide_eq_false h14
       by_cases h15:op=15
       case pos=>
        subst h15
        have hE3:=hid (show(if (mulR ⟨ng,nu,de⟩ ⟨mg,mu,me⟩).2=0 then countL 15 (mulR ⟨ng,nu,de⟩ ⟨mg,mu,me⟩).1 (l'.drop (k+1)) else mulR ⟨ng,nu,de⟩ ⟨mg,mu,me⟩)=z from hE2.out)
        have hsm:=hid (smallR_mul ⟨ng,nu,de⟩ ⟨mg,mu,me⟩)
        have hcp:=hid (fun W (hW:Below wA.heap.size wA W)=>rmul_any ⟨ng,nu,de⟩ ⟨mg,mu,me⟩ a1 e1 a3 e3 c1 d1 c3 d3 W (hR.out W hW) (hR'.out W hW) hs1.1 hs1.2 hsx.1 hsx.2)
        generalize mulR ⟨ng,nu,de⟩ ⟨mg,mu,me⟩=res at *
        obtain ⟨⟨R1,R2,R3⟩,er⟩:=res
        clear hE2
        go_wp2_with fail
        refine(hcp.out wA (Below.refl _ _)).mono ?_
        rintro ee w9 ⟨v9,rfl,a9,c9,b9,d9,hv9,p1,p2,p3,p4,B9⟩
        cases hv9
        have V9':=hid (show RatS (OldF S w w9) w9 ⟨R1,R2,R3⟩ a9 c9 b9 d9 from⟨p1.mono fun k _ h=>.inr ⟨h.1,Nat.le_trans BA.out.size h.2⟩,p3,p2.mono fun k _ h=>.inr ⟨h.1,Nat.le_trans BA.out.size h.2⟩,p4⟩)
        clear p1 p2 p3 p4 hcp
        dsimp only
        have x9:=(B9.block _ (Array.getElem?_eq_some_iff.1 xA.out).1).trans xA.out
        have J9:=hid (CntJ.set x9 V9'.out (BA.out.trans (B9.mono BA.out.size)) hsm.out)
        have f0:=frz_p x9 0
        have f1:=frz_p x9 1
        have f2:=frz_p x9 2
        replace z0:=cell_p x9 0
        replace z1:=cell_p x9 1
        replace z2:=cell_p x9 2
        simp only [List.getElem?_toArray,List.getElem?_cons_succ,List.getElem?_cons_zero] at z0 z1 z2
        clear x9 V9' B9 u2 u3 u4 hR hR' hsm JA
        go_upto_region 16 with fail
        have JB:Hid (CntJ S w (((w9.setCell ⟨w.heap.size,0,none⟩ (.bool R1)).setCell ⟨w.heap.size,1,none⟩ (.slice a9 R2.length c9)).setCell ⟨w.heap.size,2,none⟩ (.slice b9 R3.length d9)) ⟨R1,R2,R3⟩ a9 c9 b9 d9):=J9
        generalize ((w9.setCell ⟨w.heap.size,0,none⟩ (.bool R1)).setCell ⟨w.heap.size,1,none⟩ (.slice a9 R2.length c9)).setCell ⟨w.heap.size,2,none⟩ (.slice b9 R3.length d9)=wB at *
        clear J9 z0 z1 z2 f0 f1 f2
        have z0:=cell_p JB.out.x 0
        have z1:=cell_p JB.out.x 1
        have z2:=cell_p JB.out.x 2
        have f0:=frz_p JB.out.x 0
        have f1:=frz_p JB.out.x 1
        have f2:=frz_p JB.out.x 2
        simp only [List.getElem?_toArray,List.getElem?_cons_succ,List.getElem?_cons_zero] at z0 z1 z2
        by_cases her:er=0
        case pos=>
         subst her
         have hE4:=hid (show countL 15 ⟨R1,R2,R3⟩ (l'.drop (k+1))=z from hE3.out)
         go_wp2
         go_roundw
         case rel=>exact⟨k+1,⟨R1,R2,R3⟩,_,_,_,_,by omega,by go_num,rfl,hE4.out,JB.out⟩
         case measure=>first | (simp [intOf];done) | (simp [intOf];omega)
        case neg=>
         have heb:(er == 0)=false:=by simpa using her
         have hen:(er != 0)=true:=by simpa using her
         have hed:decide (er=0)=false:=decide_eq_false her
         have hE4:=hid (show((⟨R1,R2,R3⟩:RatD),er)=z from by rw [←hE3.out];exact(if_neg her).symm)
         go_wp2
         refine bodyPost_ret (v:=.tuple #[ratV ⟨R1,R2,R3⟩ a9 c9 b9 d9,.int .i64 er]) (by simp [results,Tryz.results143,go_sem, *]) rfl ?_
         rw [←hE4.out]
         exact CntJ.out (R:=(⟨R1,R2,R3⟩,er)) JB.out [(0,.bool R1),(1,.slice a9 R2.length c9),(2,.slice b9 R3.length d9)]
       case neg=>
        have h15b:(op == 15)=false:=by simpa using h15
        have h15d:decide (op=15)=false:=decide_eq_false h15
        by_cases h16:op=16
        case pos=>
         subst h16
         have hE3:=hid (show(if (quoR ⟨ng,nu,de⟩ ⟨mg,mu,me⟩).2=0 then countL 16 (quoR ⟨ng,nu,de⟩ ⟨mg,mu,me⟩).1 (l'.drop (k+1)) else quoR ⟨ng,nu,de⟩ ⟨mg,mu,me⟩)=z from hE2.out)
         have hsm:=hid (smallR_quo ⟨ng,nu,de⟩ ⟨mg,mu,me⟩)
         have hcp:=hid (fun W (hW:Below wA.heap.size wA W)=>rquo_any ⟨ng,nu,de⟩ ⟨mg,mu,me⟩ a1 e1 a3 e3 c1 d1 c3 d3 W (hR.out W hW) (hR'.out W hW) hs1.1 hs1.2 hsx.1 hsx.2)
         generalize quoR ⟨ng,nu,de⟩ ⟨mg,mu,me⟩=res at *
         obtain ⟨⟨R1,R2,R3⟩,er⟩:=res
         clear hE2
         go_wp2_with fail
         refine(hcp.out wA (Below.refl _ _)).mono ?_
         rintro ee w9 ⟨v9,rfl,a9,c9,b9,d9,hv9,p1,p2,p3,p4,B9⟩
         cases hv9
         have V9':=hid (show RatS (OldF S w w9) w9 ⟨R1,R2,R3⟩ a9 c9 b9 d9 from⟨p1.mono fun k _ h=>.inr ⟨h.1,Nat.le_trans BA.out.size h.2⟩,p3,p2.mono fun k _ h=>.inr ⟨h.1,Nat.le_trans BA.out.size h.2⟩,p4⟩)
         clear p1 p2 p3 p4 hcp
         dsimp only
         have x9:=(B9.block _ (Array.getElem?_eq_some_iff.1 xA.out).1).trans xA.out
         have J9:=hid (CntJ.set x9 V9'.out (BA.out.trans (B9.mono BA.out.size)) hsm.out)
         have f0:=frz_p x9 0
         have f1:=frz_p x9 1
         have f2:=frz_p x9 2
         replace z0:=cell_p x9 0
         replace z1:=cell_p x9 1
         replace z2:=cell_p x9 2
         simp only [List.getElem?_toArray,List.getElem?_cons_succ,List.getElem?_cons_zero] at z0 z1 z2
         clear x9 V9' B9 u2 u3 u4 hR hR' hsm JA
         go_upto_region 16 with fail
         have JB:Hid (CntJ S w (((w9.setCell ⟨w.heap.size,0,none⟩ (.bool R1)).setCell ⟨w.heap.size,1,none⟩ (.slice a9 R2.length c9)).setCell ⟨w.heap.size,2,none⟩ (.slice b9 R3.length d9)) ⟨R1,R2,R3⟩ a9 c9 b9 d9):=J9
         generalize ((w9.setCell ⟨w.heap.size,0,none⟩ (.bool R1)).setCell ⟨w.heap.size,1,none⟩ (.slice a9 R2.length c9)).setCell ⟨w.heap.size,2,none⟩ (.slice b9 R3.length d9)=wB at *
         clear J9 z0 z1 z2 f0 f1 f2
         have z0:=cell_p JB.out.x 0
         have z1:=cell_p JB.out.x 1
         have z2:=cell_p JB.out.x 2
         have f0:=frz_p JB.out.x 0
         have f1:=frz_p JB.out.x 1
         have f2:=frz_p JB.out.x 2
         simp only [List.getElem?_toArray,List.getElem?_cons_succ,List.getElem?_cons_zero] at z0 z1 z2
         by_cases her:er=0
         case pos=>
          subst her
          have hE4:=hid (show countL 16 ⟨R1,R2,R3⟩ (l'.drop (k+1))=z from hE3.out)
          go_wp2
          go_roundw
          case rel=>exact⟨k+1,⟨R1,R2,R3⟩,_,_,_,_,by omega,by go_num,rfl,hE4.out,JB.out⟩
          case measure=>first | (simp [intOf];done) | (simp [intOf];omega)
         case neg=>
          have heb:(er == 0)=false:=by simpa using her
          have hen:(er != 0)=true:=by simpa using her
          have hed:decide (er=0)=false:=decide_eq_false her
          have hE4:=hid (show((⟨R1,R2,R3⟩:RatD),er)=z from by rw [←hE3.out];exact(if_neg her).symm)
          go_wp2
          refine bodyPost_ret (v:=.tuple #[ratV ⟨R1,R2,R3⟩ a9 c9 b9 d9,.int .i64 er]) (by simp [results,Tryz.results143,go_sem, *]) rfl ?_
          rw [←hE4.out]
          exact CntJ.out (R:=(⟨R1,R2,R3⟩,er)) JB.out [(0,.bool R1),(1,.slice a9 R2.length c9),(2,.slice b9 R3.length d9)]
        case neg=>
         have h16b:(op == 16)=false:=by simpa using h16
         have h16d:decide (op=16)=false:=decide_eq_false h16
         have hcs:cntS op ⟨ng,nu,de⟩ ⟨mg,mu,me⟩=(⟨ng,nu,de⟩,0):=by unfold cntS;rw [if_neg h13,if_neg h14,if_neg h15,if_neg h16]
         rw [hcs] at hE2
         have hE3:=hid (show countL op ⟨ng,nu,de⟩ (l'.drop (k+1))=z from hE2.out)
         have J9:=hid (show CntJ S w wA ⟨ng,nu,de⟩ a1 c1 e1 d1 from JA.out)
         go_wp2
         go_roundw
         case rel=>exact⟨k+1,⟨ng,nu,de⟩,_,_,_,_,by omega,by go_num,rfl,hE3.out,J9.out⟩
         case measure=>first | (simp [intOf];done) | (simp [intOf];omega)
end
end Go.Proofs.YtgoojkiccdjplaaGreatDoor
