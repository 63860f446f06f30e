/-
  Parts of this claim's texts, one behind the other: EH. No condition.
-/
import Derived.Test.YtgoojkiccdjplaaGreatDoorN16
set_option linter.unusedVariables false
set_option linter.unusedSimpArgs false
set_option maxRecDepth 100000
set_option maxHeartbeats 16000000
namespace Go.Proofs.YtgoojkiccdjplaaGreatDoor
open Go.RowKit Go.Sort Go.Lib
theorem set2 {W:World} {p:Nat} {v0 v1 u0 u1:Value} {t:TypeId} (h:W.heap[p]? = some (.cells #[v0,v1] t (0,0))):((W.setCell ⟨p,0,none⟩ u0).setCell ⟨p,1,none⟩ u1).heap[p]? = some (.cells #[u0,u1] t (0,0)):=by
 unfold World.setCell
 rw [Array.getElem?_modify,if_pos rfl,Array.getElem?_modify,if_pos rfl,h]
 rfl
theorem plusZ_le (a b:ZD) (ha:(limbs a.n).length≤128) (hb:(limbs b.n).length≤128):(limbs (plusZ a b).n).length≤129:=by
 have h1:a.n<W64 ^ 128:=Nat.lt_of_lt_of_le (by have:=valL_lt (limbs_ok a.n);rwa [valL_limbs] at this) (Nat.pow_le_pow_right W64_pos ha)
 have h2:b.n<W64 ^ 128:=Nat.lt_of_lt_of_le (by have:=valL_lt (limbs_ok b.n);rwa [valL_limbs] at this) (Nat.pow_le_pow_right W64_pos hb)
 refine limbs_length_le (Nat.lt_of_le_of_lt (m:=a.n+b.n) ?_ (add_lt_pow h1 h2 (Nat.le_refl _)))
 unfold plusZ wideZ
 split
 ·exact Nat.le_refl _
 ·split <;> dsimp only <;> omega
section
variable {S S' : Nat → Prop}
theorem radd_any (r s:RatD) (a b a' b':Option Addr) (c d c' d':Nat) (w:World) (h:RatS S w r a c b d) (k:RatS S' w s a' c' b' d') (hrn:r.num.length≤1000000) (hrd:r.den.length≤1000000) (hsn:s.num.length≤1000000) (hsd:s.den.length≤1000000) :
  Calls Tryz.prog 182 #[ratV r a c b d,ratV s a' c' b' d'] w fun e w'=>RatE (addR r s) w e w':=by
 have hr:=fun hv=>validR_is (r:=r) h.num.us64 h.den.us64 hv
 have hs:=fun hv=>validR_is (r:=s) k.num.us64 k.den.us64 hv
 have H:=hid h
 have K:=hid k
 obtain ⟨ng,nu,de⟩:=r
 obtain ⟨mg,mu,me⟩:=s
 dsimp only at *
 have hr':=hid hr
 have hs':=hid hs
 clear h k hr hs
 have X0:=hid (heap3c w (.cells #[.bool ng,.slice a nu.length c,.slice b de.length d] 36) (.cells #[.bool mg,.slice a' mu.length c',.slice b' me.length d'] 36) (.cells #[.bool false,.slice none 0 0,.slice none 0 0] 36))
 have x1:=heap3a w (.cells #[.bool ng,.slice a nu.length c,.slice b de.length d] 36) (.cells #[.bool mg,.slice a' mu.length c',.slice b' me.length d'] 36) (.cells #[.bool false,.slice none 0 0,.slice none 0 0] 36)
 have x2:=heap3b w (.cells #[.bool ng,.slice a nu.length c,.slice b de.length d] 36) (.cells #[.bool mg,.slice a' mu.length c',.slice b' me.length d'] 36) (.cells #[.bool false,.slice none 0 0,.slice none 0 0] 36)
 have hB0:=hid (below3 w (.cells #[.bool ng,.slice a nu.length c,.slice b de.length d] 36) (.cells #[.bool mg,.slice a' mu.length c',.slice b' me.length d'] 36) (.cells #[.bool false,.slice none 0 0,.slice none 0 0] 36))
 generalize hw0:((w.alloc (.cells #[.bool ng,.slice a nu.length c,.slice b de.length d] 36)).alloc (.cells #[.bool mg,.slice a' mu.length c',.slice b' me.length d'] 36)).alloc (.cells #[.bool false,.slice none 0 0,.slice none 0 0] 36)=w0 at *
 have hcell:=hid (show ∀W,Below w0.heap.size w0 W→W.cell? ⟨w.heap.size,0,none⟩=some (.bool ng)∧W.cell? ⟨w.heap.size,1,none⟩=some (.slice a nu.length c)∧W.cell? ⟨w.heap.size,2,none⟩=some (.slice b de.length d)∧W.cell? ⟨w.heap.size+1,0,none⟩=some (.bool mg)∧W.cell? ⟨w.heap.size+1,1,none⟩=some (.slice a' mu.length c')∧W.cell? ⟨w.heap.size+1,2,none⟩=some (.slice b' me.length d') from fun W hW=>
  ⟨keep_cell hW (cell_p x1 0),keep_cell hW (cell_p x1 1),keep_cell hW (cell_p x1 2),keep_cell hW (cell_p x2 0),keep_cell hW (cell_p x2 1),keep_cell hW (cell_p x2 2)⟩)
 have hbox:=hid (show ∀W,Below w0.heap.size w0 W→W.heap[w.heap.size+1+1]? = some (.cells #[.bool false,.slice none 0 0,.slice none 0 0] 36 (0,0))∧Below w.heap.size w W from fun W hW=>⟨(hW.block _ (Array.getElem?_eq_some_iff.1 X0.out).1).trans X0.out,hB0.out.trans (hW.mono hB0.out.size)⟩)
 have hv1:=hid (ratValid_any ⟨ng,nu,de⟩ a b c d w0 (H.out.num.below hB0.out (Nat.le_refl _)) (H.out.den.below hB0.out (Nat.le_refl _)) hrn hrd H.out.nc H.out.dc)
 have hv2:=hid (fun W (hW:Below w0.heap.size w0 W)=>ratValid_any ⟨mg,mu,me⟩ a' b' c' d' W (K.out.num.below (hbox.out W hW).2 (Nat.le_refl _)) (K.out.den.below (hbox.out W hW).2 (Nat.le_refl _)) hsn hsd K.out.nc K.out.dc)
 obtain ⟨q0,q1,q2,r0,r1,r2⟩:=hcell.out w0 (Below.refl _ _)
 clear x1 x2
 cases hvr:okRat ⟨ng,nu,de⟩
 case false=>
  have hdf:=hid (show addR ⟨ng,nu,de⟩ ⟨mg,mu,me⟩=(rat0,1) from by unfold addR validR;rw [hvr];rfl)
  rw [hvr] at hv1
  clear hvr
  go_enter Tryz.func182,Tryz.ntmps182
  go_wp2_with fail
  refine hv1.out.mono ?_;rintro e w1 ⟨rfl,hb1⟩
  obtain ⟨xb,hb⟩:=hbox.out w1 hb1
  have XB:=hid xb
  have HB:=hid hb
  clear hw0 xb hb hb1 hv1
  have x5:=XB.out
  have z0:=cell_p x5 0
  have z1:=cell_p x5 1
  have z2:=cell_p x5 2
  have f0:=frz_p x5 0
  have f1:=frz_p x5 1
  have f2:=frz_p x5 2
  simp only [List.getElem?_toArray,List.getElem?_cons_succ,List.getElem?_cons_zero] at z0 z1 z2
  clear x5
  go_wp2
  refine bodyPost_ret (v:=.tuple #[ratV ⟨false,[],[]⟩ none 0 none 0,.int .i64 1]) (by simp [results,Tryz.results182,go_sem, *]) rfl ?_
  rw [hdf.out]
  exact⟨_,rfl,RatPost.set (r:=rat0) (by decide) (by decide) XB.out (by omega) (.nil _ _ _ _) (.nil _ _ _ _) ⟨Nat.zero_le _,Nat.zero_le _⟩ ⟨Nat.zero_le _,Nat.zero_le _⟩ HB.out [(0,.bool false),(1,.slice none 0 0),(2,.slice none 0 0)]⟩
 case true=>
  rw [hvr] at hv1
  cases hvs:okRat ⟨mg,mu,me⟩
  case false=>
   have hdf:=hid (show addR ⟨ng,nu,de⟩ ⟨mg,mu,me⟩=(rat0,1) from by unfold addR validR;rw [hvr,hvs];rfl)
   rw [hvs] at hv2
   clear hvr hvs
   go_enter Tryz.func182,Tryz.ntmps182
   go_wp2_with fail
   refine hv1.out.mono ?_;rintro e w1 ⟨rfl,hb1⟩
   have hb1':=hid hb1
   clear q0 q1 q2 r0 r1 r2
   obtain ⟨q0,q1,q2,r0,r1,r2⟩:=hcell.out w1 hb1
   clear hw0 hv1
   go_wp2_with fail
   refine(hv2.out w1 hb1'.out).mono ?_;rintro e w2 ⟨rfl,hb2⟩
   obtain ⟨xb,hb⟩:=hbox.out w2 (hb1'.out.trans (hb2.mono hb1'.out.size))
   have XB:=hid xb
   have HB:=hid hb
   clear xb hb hb1 hb2 hv2
   have x5:=XB.out
   have z0:=cell_p x5 0
   have z1:=cell_p x5 1
   have z2:=cell_p x5 2
   have f0:=frz_p x5 0
   have f1:=frz_p x5 1
   have f2:=frz_p x5 2
   simp only [List.getElem?_toArray,List.getElem?_cons_succ,List.getElem?_cons_zero] at z0 z1 z2
   clear x5
   go_wp2
   refine bodyPost_ret (v:=.tuple #[ratV ⟨false,[],[]⟩ none 0 none 0,.int .i64 1]) (by simp [results,Tryz.results182,go_sem, *]) rfl ?_
   rw [hdf.out]
   exact⟨_,rfl,RatPost.set (r:=rat0) (by decide) (by decide) XB.out (by omega) (.nil _ _ _ _) (.nil _ _ _ _) ⟨Nat.zero_le _,Nat.zero_le _⟩ ⟨Nat.zero_le _,Nat.zero_le _⟩ HB.out [(0,.bool false),(1,.slice none 0 0),(2,.slice none 0 0)]⟩
  case true=>
   have R:=hid (hr'.out hvr)
   have S2:=hid (hs'.out hvs)
   rw [hvs] at hv2
   have hdm:=hid (show addR ⟨ng,nu,de⟩ ⟨mg,mu,me⟩=lowestR (plusZ (timesZ ⟨ng,valL nu⟩ ⟨false,valL me⟩) (timesZ ⟨mg,valL mu⟩ ⟨false,valL de⟩)).neg (plusZ (timesZ ⟨ng,valL nu⟩ ⟨false,valL me⟩) (timesZ ⟨mg,valL mu⟩ ⟨false,valL de⟩)).n (valL de * valL me) from by unfold addR validR;rw [hvr,hvs];rfl)
   clear hr' hs' hvr hvs
   obtain ⟨x,y,e1,e2,lx,ly,hy0⟩:∃x y,nu=limbs x∧de=limbs y∧nu.length≤64∧de.length≤64∧0<y:=⟨_,_,R.out.num,R.out.den,R.out.nl,R.out.dl,R.out.pos⟩
   obtain ⟨x',y',e3,e4,lx',ly',hy0'⟩:∃x y,mu=limbs x∧me=limbs y∧mu.length≤64∧me.length≤64∧0<y:=⟨_,_,S2.out.num,S2.out.den,S2.out.nl,S2.out.dl,S2.out.pos⟩
   subst e1 e2 e3 e4
   rw [valL_limbs,valL_limbs,valL_limbs,valL_limbs] at hdm
   clear R S2
   go_enter Tryz.func182,Tryz.ntmps182
   go_wp2_with fail
   refine hv1.out.mono ?_;rintro e w1 ⟨rfl,hb1⟩
   have hb1':=hid hb1
   clear q0 q1 q2 r0 r1 r2
   obtain ⟨q0,q1,q2,r0,r1,r2⟩:=hcell.out w1 hb1
   clear hw0 hv1 hb1
   go_wp2_with fail
   refine(hv2.out w1 hb1'.out).mono ?_;rintro e w2 ⟨rfl,hb2⟩
   have hb02:=hid (hb1'.out.trans (hb2.mono hb1'.out.size))
   clear q0 q1 q2 r0 r1 r2 X0 hB0
   obtain ⟨q0,q1,q2,r0,r1,r2⟩:=hcell.out w2 hb02.out
   obtain ⟨xb,hb⟩:=hbox.out w2 hb02.out
   have X0:=hid xb
   have hB0:=hid hb
   clear hcell hbox hb02 hb1' hb2 hv2 xb hb
   clear w1 w0
   obtain ⟨w0,rfl⟩:∃W,W=w2:=⟨_,rfl⟩
   have hsz:=hid hB0.out.size
   have hz1:=hid (show(limbs (timesZ ⟨ng,x⟩ ⟨false,y'⟩).n).length≤274877906944 from Nat.le_trans (limbs_mul_le lx ly') (by decide))
   have hz2:=hid (show(limbs (timesZ ⟨mg,x'⟩ ⟨false,y⟩).n).length≤274877906944 from Nat.le_trans (limbs_mul_le lx' ly) (by decide))
   have hzl:=hid (show(limbs (plusZ (timesZ ⟨ng,x⟩ ⟨false,y'⟩) (timesZ ⟨mg,x'⟩ ⟨false,y⟩)).n).length≤274877906944 from Nat.le_trans (plusZ_le (timesZ ⟨ng,x⟩ ⟨false,y'⟩) (timesZ ⟨mg,x'⟩ ⟨false,y⟩) (limbs_mul_le lx ly') (limbs_mul_le lx' ly)) (by decide))
   have ht4:=hid (fun W (hb:Below w0.heap.size w0 W)=>wtimes_any ng false a b' (limbs x).length (limbs y').length c d' x y' W (H.out.num.below (hB0.out.trans (hb.mono hB0.out.size)) (Nat.le_refl _)) (K.out.den.below (hB0.out.trans (hb.mono hB0.out.size)) (Nat.le_refl _)) (by omega) (by omega))
   have ht9:=hid (fun W (hb:Below w0.heap.size w0 W)=>wtimes_any mg false a' b (limbs x').length (limbs y).length c' d x' y W (K.out.num.below (hB0.out.trans (hb.mono hB0.out.size)) (Nat.le_refl _)) (H.out.den.below (hB0.out.trans (hb.mono hB0.out.size)) (Nat.le_refl _)) (by omega) (by omega))
   have hcB:=hid (show ∀W,Below w0.heap.size w0 W→(W.cell? ⟨w.heap.size,0,none⟩=some (.bool ng)∧W.cell? ⟨w.heap.size,1,none⟩=some (.slice a (limbs x).length c)∧W.cell? ⟨w.heap.size,2,none⟩=some (.slice b (limbs y).length d))∧(W.cell? ⟨w.heap.size+1,0,none⟩=some (.bool mg)∧W.cell? ⟨w.heap.size+1,1,none⟩=some (.slice a' (limbs x').length c')∧W.cell? ⟨w.heap.size+1,2,none⟩=some (.slice b' (limbs y').length d')) from fun W hW=>⟨⟨keep_cell hW q0,keep_cell hW q1,keep_cell hW q2⟩,keep_cell hW r0,keep_cell hW r1,keep_cell hW r2⟩)
   go_upto_region 3 with fail
   go_cut [6] from 16 to 26 (fun v6 wc=>(∃(p:Nat) (a:Option Addr) (c:Nat),v6 = .pointer (some ⟨p,0,none⟩)∧Hid (wc.heap[p]? = some (.cells #[.bool (plusZ (timesZ ⟨ng,x⟩ ⟨false,y'⟩) (timesZ ⟨mg,x'⟩ ⟨false,y⟩)).neg,.slice a (limbs (plusZ (timesZ ⟨ng,x⟩ ⟨false,y'⟩) (timesZ ⟨mg,x'⟩ ⟨false,y⟩)).n).length c] 160 (0,0)))∧Hid (SlR Rep.u64 (fun _=>True) wc a (limbs (plusZ (timesZ ⟨ng,x⟩ ⟨false,y'⟩) (timesZ ⟨mg,x'⟩ ⟨false,y⟩)).n).length (limbs (plusZ (timesZ ⟨ng,x⟩ ⟨false,y'⟩) (timesZ ⟨mg,x'⟩ ⟨false,y⟩)).n))∧(limbs (plusZ (timesZ ⟨ng,x⟩ ⟨false,y'⟩) (timesZ ⟨mg,x'⟩ ⟨false,y⟩)).n).length≤c∧c≤maxLen)∧Hid (Below w0.heap.size w0 wc))
   case first=>
    clear q0 q1 q2 r0 r1 r2
    refine wp_region_tt (S:=fun W=>Below w0.heap.size w0 W) 12 (by kernel_rfl) (by kernel_rfl) (keep_drew w0) (fun hdr=>?_)
    have BB:=hid (keep_drew w0)
    clear hdr
    generalize w0.drew=wc at *
    refine tk (i:=0) (hy:=(Or.inl ⟨by rfl,by(intro W hSw;have hq:=(hcB.out W hSw).1;have hq1:=hq.1;have hq2:=hq.2.1;have hq3:=hq.2.2;go_simp <;> with_reducible rfl)⟩)) (h:=?_)
    (try simp only [Act.put,sA,sB,sC])
    refine tk (i:=2) (hy:=(Or.inl ⟨by rfl,by(intro W hSw;have hq:=(hcB.out W hSw).2;have hq1:=hq.1;have hq2:=hq.2.1;have hq3:=hq.2.2;go_simp <;> with_reducible rfl)⟩)) (h:=?_)
    (try simp only [Act.put,sA,sB,sC])
    refine tk (i:=5) (hy:=(Or.inl ⟨by rfl,by(intro W hSw;have hq:=(hcB.out W hSw).2;have hq1:=hq.1;have hq2:=hq.2.1;have hq3:=hq.2.2;go_simp <;> with_reducible rfl)⟩)) (h:=?_)
    (try simp only [Act.put,sA,sB,sC])
    refine tk (i:=7) (hy:=(Or.inl ⟨by rfl,by(intro W hSw;have hq:=(hcB.out W hSw).1;have hq1:=hq.1;have hq2:=hq.2.1;have hq3:=hq.2.2;go_simp <;> with_reducible rfl)⟩)) (h:=?_)
    (try simp only [Act.put,sA,sB,sC])
    refine tt_ready (rs:=[1,11]) (by decide +kernel) (allT_cons (by rfl) (fun K hK=>?_) (allT_cons (by rfl) (fun K hK=>?_) allT_nil))
    ·skip
     go_simp
     go_at_call 212
     refine(rnum_any _ _ _ _ _ _ _ wc).mono ?_
     rintro ee wn ⟨rfl,bn⟩
     have BB:=hid (BB.out.trans (bn.mono BB.out.size))
     (try have T4:=hid (T4.out.below bn (Nat.le_refl _)))
     (try have T9:=hid (T9.out.below bn (Nat.le_refl _)))
     (try have T10:=hid (T10.out.move (Below.dat bn) bn.size))
     (try have XI:=hid ((bn.block _ (Array.getElem?_eq_some_iff.1 XI.out).1).trans XI.out))
     clear bn
     obtain ⟨wc,rfl⟩:∃W,W=wn:=⟨_,rfl⟩
     (try dsimp only)
     refine hK.out _ _ (by(exact BB.out)) (fun hHeld2=>?_)
     clear hK K
     (try simp only [Act.put,sA,sB,sC])
     refine tt_ready (rs:=[3,11]) (by decide +kernel) (allT_cons (by rfl) (fun K hK=>?_) (allT_cons (by rfl) (fun K hK=>?_) allT_nil))
     ·skip
      go_simp
      go_at_call 213
      refine(rden_any _ _ _ _ _ _ _ wc).mono ?_
      rintro ee wn ⟨rfl,bn⟩
      have BB:=hid (BB.out.trans (bn.mono BB.out.size))
      (try have T4:=hid (T4.out.below bn (Nat.le_refl _)))
      (try have T9:=hid (T9.out.below bn (Nat.le_refl _)))
      (try have T10:=hid (T10.out.move (Below.dat bn) bn.size))
      (try have XI:=hid ((bn.block _ (Array.getElem?_eq_some_iff.1 XI.out).1).trans XI.out))
      clear bn
      obtain ⟨wc,rfl⟩:∃W,W=wn:=⟨_,rfl⟩
      (try dsimp only)
      refine hK.out _ _ (by(exact BB.out)) (fun hHeld3=>?_)
      clear hK K
      (try simp only [Act.put,sA,sB,sC])
      refine tt_ready (rs:=[4,11]) (by decide +kernel) (allT_cons (by rfl) (fun K hK=>?_) (allT_cons (by rfl) (fun K hK=>?_) allT_nil))
      ·skip
       go_simp
       go_at_call 211
       refine(ht4.out wc BB.out).mono ?_
       rintro ee wn ⟨aT4,cT4,rfl,sT,mT,bn⟩
       have TN:=hid (sT.mono (S':=fun _=>True) fun _ _ _=>trivial)
       clear sT mT
       have BB:=hid (BB.out.trans (bn.mono BB.out.size))
       (try have T4:=hid (T4.out.below bn (Nat.le_refl _)))
       (try have T9:=hid (T9.out.below bn (Nat.le_refl _)))
       (try have T10:=hid (T10.out.move (Below.dat bn) bn.size))
       (try have XI:=hid ((bn.block _ (Array.getElem?_eq_some_iff.1 XI.out).1).trans XI.out))
       clear bn
       obtain ⟨wc,rfl⟩:∃W,W=wn:=⟨_,rfl⟩
       (try dsimp only)
       have T4:=TN
       clear TN
       refine hK.out _ _ (by(exact BB.out)) (fun hHeld4=>?_)
       clear hK K
       (try simp only [Act.put,sA,sB,sC])
       refine tt_ready (rs:=[6,11]) (by decide +kernel) (allT_cons (by rfl) (fun K hK=>?_) (allT_cons (by rfl) (fun K hK=>?_) allT_nil))
       ·skip
        go_simp
        go_at_call 212
        refine(rnum_any _ _ _ _ _ _ _ wc).mono ?_
        rintro ee wn ⟨rfl,bn⟩
        have BB:=hid (BB.out.trans (bn.mono BB.out.size))
        (try have T4:=hid (T4.out.below bn (Nat.le_refl _)))
        (try have T9:=hid (T9.out.below bn (Nat.le_refl _)))
        (try have T10:=hid (T10.out.move (Below.dat bn) bn.size))
        (try have XI:=hid ((bn.block _ (Array.getElem?_eq_some_iff.1 XI.out).1).trans XI.out))
        clear bn
        obtain ⟨wc,rfl⟩:∃W,W=wn:=⟨_,rfl⟩
        (try dsimp only)
        refine hK.out _ _ (by(exact BB.out)) (fun hHeld5=>?_)
        clear hK K
        (try simp only [Act.put,sA,sB,sC])
        refine tt_ready (rs:=[8,11]) (by decide +kernel) (allT_cons (by rfl) (fun K hK=>?_) (allT_cons (by rfl) (fun K hK=>?_) allT_nil))
        ·skip
         go_simp
         go_at_call 213
         refine(rden_any _ _ _ _ _ _ _ wc).mono ?_
         rintro ee wn ⟨rfl,bn⟩
         have BB:=hid (BB.out.trans (bn.mono BB.out.size))
         (try have T4:=hid (T4.out.below bn (Nat.le_refl _)))
         (try have T9:=hid (T9.out.below bn (Nat.le_refl _)))
         (try have T10:=hid (T10.out.move (Below.dat bn) bn.size))
         (try have XI:=hid ((bn.block _ (Array.getElem?_eq_some_iff.1 XI.out).1).trans XI.out))
         clear bn
         obtain ⟨wc,rfl⟩:∃W,W=wn:=⟨_,rfl⟩
         (try dsimp only)
         refine hK.out _ _ (by(exact BB.out)) (fun hHeld6=>?_)
         clear hK K
         (try simp only [Act.put,sA,sB,sC])
         refine tt_ready (rs:=[9,11]) (by decide +kernel) (allT_cons (by rfl) (fun K hK=>?_) (allT_cons (by rfl) (fun K hK=>?_) allT_nil))
         ·skip
          go_simp
          go_at_call 211
          refine(ht9.out wc BB.out).mono ?_
          rintro ee wn ⟨aT9,cT9,rfl,sT,mT,bn⟩
          have TN:=hid (sT.mono (S':=fun _=>True) fun _ _ _=>trivial)
          clear sT mT
          have BB:=hid (BB.out.trans (bn.mono BB.out.size))
          (try have T4:=hid (T4.out.below bn (Nat.le_refl _)))
          (try have T9:=hid (T9.out.below bn (Nat.le_refl _)))
          (try have T10:=hid (T10.out.move (Below.dat bn) bn.size))
          (try have XI:=hid ((bn.block _ (Array.getElem?_eq_some_iff.1 XI.out).1).trans XI.out))
          clear bn
          obtain ⟨wc,rfl⟩:∃W,W=wn:=⟨_,rfl⟩
          (try dsimp only)
          have T9:=TN
          clear TN
          refine hK.out _ _ (by(exact BB.out)) (fun hHeld7=>?_)
          clear hK K
          (try simp only [Act.put,sA,sB,sC])
          refine tt_ready (rs:=[10,11]) (by decide +kernel) (allT_cons (by rfl) (fun K hK=>?_) (allT_cons (by rfl) (fun K hK=>?_) allT_nil))
          ·skip
           have hpp:=hid (wplus_any (timesZ ⟨ng,x⟩ ⟨false,y'⟩).neg (timesZ ⟨mg,x'⟩ ⟨false,y⟩).neg aT4 aT9 (limbs (timesZ ⟨ng,x⟩ ⟨false,y'⟩).n).length (limbs (timesZ ⟨mg,x'⟩ ⟨false,y⟩).n).length cT4 cT9 (timesZ ⟨ng,x⟩ ⟨false,y'⟩).n (timesZ ⟨mg,x'⟩ ⟨false,y⟩).n wc T4.out T9.out hz1.out hz2.out)
           go_simp
           go_at_call 214
           refine hpp.out.mono ?_
           rintro ee wn ⟨aP,cP,rfl,sP,mP,bn⟩
           have TN:=hid (sP.mono (S':=DatF w0.heap.size wn) fun k _ h=>⟨h.1,Nat.le_trans BB.out.size h.2⟩)
           have LP:=hid mP
           clear sP mP hpp
           have BB:=hid (BB.out.trans (bn.mono BB.out.size))
           (try have T4:=hid (T4.out.below bn (Nat.le_refl _)))
           (try have T9:=hid (T9.out.below bn (Nat.le_refl _)))
           (try have T10:=hid (T10.out.move (Below.dat bn) bn.size))
           (try have XI:=hid ((bn.block _ (Array.getElem?_eq_some_iff.1 XI.out).1).trans XI.out))
           clear bn
           obtain ⟨wc,rfl⟩:∃W,W=wn:=⟨_,rfl⟩
           (try dsimp only)
           have T10:=TN
           clear TN
           refine hK.out _ _ (by(exact BB.out)) (fun hHeld8=>?_)
           clear hK K
           (try simp only [Act.put,sA,sB,sC])
           refine tt_ready (rs:=[11]) (by decide +kernel) (allT_cons (by rfl) (fun K hK=>?_) allT_nil)
           go_simp
           have bn:Below wc.heap.size wc (wc.alloc (.cells #[.bool false,.slice none 0 0] 160)):=(Below.refl _ _).alloc (Nat.le_refl _) _
           have XN:=hid (heap_alloc_new wc (.cells #[.bool false,.slice none 0 0] 160))
           have zI:=hid BB.out.size
           generalize hwn:wc.alloc (.cells #[.bool false,.slice none 0 0] 160)=wn at *
           clear hwn
           have BB:=hid (BB.out.trans (bn.mono BB.out.size))
           (try have T4:=hid (T4.out.below bn (Nat.le_refl _)))
           (try have T9:=hid (T9.out.below bn (Nat.le_refl _)))
           (try have T10:=hid (T10.out.move (Below.dat bn) bn.size))
           (try have XI:=hid ((bn.block _ (Array.getElem?_eq_some_iff.1 XI.out).1).trans XI.out))
           clear bn
           generalize wc.heap.size=pI at *
           obtain ⟨wc,rfl⟩:∃W,W=wn:=⟨_,rfl⟩
           (try dsimp only)
           have XI:=XN
           clear XN
           refine hK.out _ _ (by(exact BB.out)) (fun hHeld9=>?_)
           clear hK K
           (try simp only [Act.put,sA,sB,sC])
           refine tt_tail (by decide +kernel) ?_
           simp only [List.drop_succ_cons,List.drop_zero]
           have x5:=XI.out
           have z0:=cell_p x5 0
           have z1:=cell_p x5 1
           have f0:=frz_p x5 0
           have f1:=frz_p x5 1
           simp only [List.getElem?_toArray,List.getElem?_cons_succ,List.getElem?_cons_zero] at z0 z1
           clear x5
           go_wp2
           go_meet
           case rel=>
            obtain ⟨k1,k2,k3⟩:=setL_dat (by decide) (by decide) [(0,.bool (plusZ (timesZ ⟨ng,x⟩ ⟨false,y'⟩) (timesZ ⟨mg,x'⟩ ⟨false,y⟩)).neg),(1,.slice aP (limbs (plusZ (timesZ ⟨ng,x⟩ ⟨false,y'⟩) (timesZ ⟨mg,x'⟩ ⟨false,y⟩)).n).length cP)] _ _ XI.out
            exact⟨⟨pI,aP,cP,rfl,set2 XI.out,(T10.out.move k1 (Nat.le_of_eq k2.symm)).mono fun _ _ _=>trivial,LP.out.1,LP.out.2⟩,k3 _ _ zI.out BB.out⟩
          ·skip
           go_simp
           have bn:Below wc.heap.size wc (wc.alloc (.cells #[.bool false,.slice none 0 0] 160)):=(Below.refl _ _).alloc (Nat.le_refl _) _
           have XN:=hid (heap_alloc_new wc (.cells #[.bool false,.slice none 0 0] 160))
           have zI:=hid BB.out.size
           generalize hwn:wc.alloc (.cells #[.bool false,.slice none 0 0] 160)=wn at *
           clear hwn
           have BB:=hid (BB.out.trans (bn.mono BB.out.size))
           (try have T4:=hid (T4.out.below bn (Nat.le_refl _)))
           (try have T9:=hid (T9.out.below bn (Nat.le_refl _)))
           (try have T10:=hid (T10.out.move (Below.dat bn) bn.size))
           (try have XI:=hid ((bn.block _ (Array.getElem?_eq_some_iff.1 XI.out).1).trans XI.out))
           clear bn
           generalize wc.heap.size=pI at *
           obtain ⟨wc,rfl⟩:∃W,W=wn:=⟨_,rfl⟩
           (try dsimp only)
           have XI:=XN
           clear XN
           refine hK.out _ _ (by(exact BB.out)) (fun hHeld8=>?_)
           clear hK K
           (try simp only [Act.put,sA,sB,sC])
           refine tt_ready (rs:=[10]) (by decide +kernel) (allT_cons (by rfl) (fun K hK=>?_) allT_nil)
           have hpp:=hid (wplus_any (timesZ ⟨ng,x⟩ ⟨false,y'⟩).neg (timesZ ⟨mg,x'⟩ ⟨false,y⟩).neg aT4 aT9 (limbs (timesZ ⟨ng,x⟩ ⟨false,y'⟩).n).length (limbs (timesZ ⟨mg,x'⟩ ⟨false,y⟩).n).length cT4 cT9 (timesZ ⟨ng,x⟩ ⟨false,y'⟩).n (timesZ ⟨mg,x'⟩ ⟨false,y⟩).n wc T4.out T9.out hz1.out hz2.out)
           go_simp
           go_at_call 214
           refine hpp.out.mono ?_
           rintro ee wn ⟨aP,cP,rfl,sP,mP,bn⟩
           have TN:=hid (sP.mono (S':=DatF w0.heap.size wn) fun k _ h=>⟨h.1,Nat.le_trans BB.out.size h.2⟩)
           have LP:=hid mP
           clear sP mP hpp
           have BB:=hid (BB.out.trans (bn.mono BB.out.size))
           (try have T4:=hid (T4.out.below bn (Nat.le_refl _)))
           (try have T9:=hid (T9.out.below bn (Nat.le_refl _)))
           (try have T10:=hid (T10.out.move (Below.dat bn) bn.size))
           (try have XI:=hid ((bn.block _ (Array.getElem?_eq_some_iff.1 XI.out).1).trans XI.out))
           clear bn
           obtain ⟨wc,rfl⟩:∃W,W=wn:=⟨_,rfl⟩
           (try dsimp only)
           have T10:=TN
           clear TN
           refine hK.out _ _ (by(exact BB.out)) (fun hHeld9=>?_)
           clear hK K
           (try simp only [Act.put,sA,sB,sC])
           refine tt_tail (by decide +kernel) ?_
           simp only [List.drop_succ_cons,List.drop_zero]
           have x5:=XI.out
           have z0:=cell_p x5 0
           have z1:=cell_p x5 1
           have f0:=frz_p x5 0
           have f1:=frz_p x5 1
           simp only [List.getElem?_toArray,List.getElem?_cons_succ,List.getElem?_cons_zero] at z0 z1
           clear x5
           go_wp2
           go_meet
           case rel=>
            obtain ⟨k1,k2,k3⟩:=setL_dat (by decide) (by decide) [(0,.bool (plusZ (timesZ ⟨ng,x⟩ ⟨false,y'⟩) (timesZ ⟨mg,x'⟩ ⟨false,y⟩)).neg),(1,.slice aP (limbs (plusZ (timesZ ⟨ng,x⟩ ⟨false,y'⟩) (timesZ ⟨mg,x'⟩ ⟨false,y⟩)).n).length cP)] _ _ XI.out
            exact⟨⟨pI,aP,cP,rfl,set2 XI.out,(T10.out.move k1 (Nat.le_of_eq k2.symm)).mono fun _ _ _=>trivial,LP.out.1,LP.out.2⟩,k3 _ _ zI.out BB.out⟩
         ·skip
          go_simp
          have bn:Below wc.heap.size wc (wc.alloc (.cells #[.bool false,.slice none 0 0] 160)):=(Below.refl _ _).alloc (Nat.le_refl _) _
          have XN:=hid (heap_alloc_new wc (.cells #[.bool false,.slice none 0 0] 160))
          have zI:=hid BB.out.size
          generalize hwn:wc.alloc (.cells #[.bool false,.slice none 0 0] 160)=wn at *
          clear hwn
          have BB:=hid (BB.out.trans (bn.mono BB.out.size))
          (try have T4:=hid (T4.out.below bn (Nat.le_refl _)))
          (try have T9:=hid (T9.out.below bn (Nat.le_refl _)))
          (try have T10:=hid (T10.out.move (Below.dat bn) bn.size))
          (try have XI:=hid ((bn.block _ (Array.getElem?_eq_some_iff.1 XI.out).1).trans XI.out))
          clear bn
          generalize wc.heap.size=pI at *
          obtain ⟨wc,rfl⟩:∃W,W=wn:=⟨_,rfl⟩
          (try dsimp only)
          have XI:=XN
          clear XN
          refine hK.out _ _ (by(exact BB.out)) (fun hHeld7=>?_)
          clear hK K
          (try simp only [Act.put,sA,sB,sC])
          refine tt_ready (rs:=[9]) (by decide +kernel) (allT_cons (by rfl) (fun K hK=>?_) allT_nil)
          go_simp
          go_at_call 211
          refine(ht9.out wc BB.out).mono ?_
          rintro ee wn ⟨aT9,cT9,rfl,sT,mT,bn⟩
          have TN:=hid (sT.mono (S':=fun _=>True) fun _ _ _=>trivial)
          clear sT mT
          have BB:=hid (BB.out.trans (bn.mono BB.out.size))
          (try have T4:=hid (T4.out.below bn (Nat.le_refl _)))
          (try have T9:=hid (T9.out.below bn (Nat.le_refl _)))
          (try have T10:=hid (T10.out.move (Below.dat bn) bn.size))
          (try have XI:=hid ((bn.block _ (Array.getElem?_eq_some_iff.1 XI.out).1).trans XI.out))
          clear bn
          obtain ⟨wc,rfl⟩:∃W,W=wn:=⟨_,rfl⟩
          (try dsimp only)
          have T9:=TN
          clear TN
          refine hK.out _ _ (by(exact BB.out)) (fun hHeld8=>?_)
          clear hK K
          (try simp only [Act.put,sA,sB,sC])
          refine tt_ready (rs:=[10]) (by decide +kernel) (allT_cons (by rfl) (fun K hK=>?_) allT_nil)
          have hpp:=hid (wplus_any (timesZ ⟨ng,x⟩ ⟨false,y'⟩).neg (timesZ ⟨mg,x'⟩ ⟨false,y⟩).neg aT4 aT9 (limbs (timesZ ⟨ng,x⟩ ⟨false,y'⟩).n).length (limbs (timesZ ⟨mg,x'⟩ ⟨false,y⟩).n).length cT4 cT9 (timesZ ⟨ng,x⟩ ⟨false,y'⟩).n (timesZ ⟨mg,x'⟩ ⟨false,y⟩).n wc T4.out T9.out hz1.out hz2.out)
          go_simp
          go_at_call 214
          refine hpp.out.mono ?_
          rintro ee wn ⟨aP,cP,rfl,sP,mP,bn⟩
          have TN:=hid (sP.mono (S':=DatF w0.heap.size wn) fun k _ h=>⟨h.1,Nat.le_trans BB.out.size h.2⟩)
          have LP:=hid mP
          clear sP mP hpp
          have BB:=hid (BB.out.trans (bn.mono BB.out.size))
          (try have T4:=hid (T4.out.below bn (Nat.le_refl _)))
          (try have T9:=hid (T9.out.below bn (Nat.le_refl _)))
          (try have T10:=hid (T10.out.move (Below.dat bn) bn.size))
          (try have XI:=hid ((bn.block _ (Array.getElem?_eq_some_iff.1 XI.out).1).trans XI.out))
          clear bn
          obtain ⟨wc,rfl⟩:∃W,W=wn:=⟨_,rfl⟩
          (try dsimp only)
          have T10:=TN
          clear TN
          refine hK.out _ _ (by(exact BB.out)) (fun hHeld9=>?_)
          clear hK K
          (try simp only [Act.put,sA,sB,sC])
          refine tt_tail (by decide +kernel) ?_
          simp only [List.drop_succ_cons,List.drop_zero]
          have x5:=XI.out
          have z0:=cell_p x5 0
          have z1:=cell_p x5 1
          have f0:=frz_p x5 0
          have f1:=frz_p x5 1
          simp only [List.getElem?_toArray,List.getElem?_cons_succ,List.getElem?_cons_zero] at z0 z1
          clear x5
          go_wp2
          go_meet
          case rel=>
           obtain ⟨k1,k2,k3⟩:=setL_dat (by decide) (by decide) [(0,.bool (plusZ (timesZ ⟨ng,x⟩ ⟨false,y'⟩) (timesZ ⟨mg,x'⟩ ⟨false,y⟩)).neg),(1,.slice aP (limbs (plusZ (timesZ ⟨ng,x⟩ ⟨false,y'⟩) (timesZ ⟨mg,x'⟩ ⟨false,y⟩)).n).length cP)] _ _ XI.out
           exact⟨⟨pI,aP,cP,rfl,set2 XI.out,(T10.out.move k1 (Nat.le_of_eq k2.symm)).mono fun _ _ _=>trivial,LP.out.1,LP.out.2⟩,k3 _ _ zI.out BB.out⟩
        ·skip
         go_simp
         have bn:Below wc.heap.size wc (wc.alloc (.cells #[.bool false,.slice none 0 0] 160)):=(Below.refl _ _).alloc (Nat.le_refl _) _
         have XN:=hid (heap_alloc_new wc (.cells #[.bool false,.slice none 0 0] 160))
         have zI:=hid BB.out.size
         generalize hwn:wc.alloc (.cells #[.bool false,.slice none 0 0] 160)=wn at *
         clear hwn
         have BB:=hid (BB.out.trans (bn.mono BB.out.size))
         (try have T4:=hid (T4.out.below bn (Nat.le_refl _)))
         (try have T9:=hid (T9.out.below bn (Nat.le_refl _)))
         (try have T10:=hid (T10.out.move (Below.dat bn) bn.size))
         (try have XI:=hid ((bn.block _ (Array.getElem?_eq_some_iff.1 XI.out).1).trans XI.out))
         clear bn
         generalize wc.heap.size=pI at *
         obtain ⟨wc,rfl⟩:∃W,W=wn:=⟨_,rfl⟩
         (try dsimp only)
         have XI:=XN
         clear XN
         refine hK.out _ _ (by(exact BB.out)) (fun hHeld6=>?_)
         clear hK K
         (try simp only [Act.put,sA,sB,sC])
         refine tt_ready (rs:=[8]) (by decide +kernel) (allT_cons (by rfl) (fun K hK=>?_) allT_nil)
         go_simp
         go_at_call 213
         refine(rden_any _ _ _ _ _ _ _ wc).mono ?_
         rintro ee wn ⟨rfl,bn⟩
         have BB:=hid (BB.out.trans (bn.mono BB.out.size))
         (try have T4:=hid (T4.out.below bn (Nat.le_refl _)))
         (try have T9:=hid (T9.out.below bn (Nat.le_refl _)))
         (try have T10:=hid (T10.out.move (Below.dat bn) bn.size))
         (try have XI:=hid ((bn.block _ (Array.getElem?_eq_some_iff.1 XI.out).1).trans XI.out))
         clear bn
         obtain ⟨wc,rfl⟩:∃W,W=wn:=⟨_,rfl⟩
         (try dsimp only)
         refine hK.out _ _ (by(exact BB.out)) (fun hHeld7=>?_)
         clear hK K
         (try simp only [Act.put,sA,sB,sC])
         refine tt_ready (rs:=[9]) (by decide +kernel) (allT_cons (by rfl) (fun K hK=>?_) allT_nil)
         go_simp
         go_at_call 211
         refine(ht9.out wc BB.out).mono ?_
         rintro ee wn ⟨aT9,cT9,rfl,sT,mT,bn⟩
         have TN:=hid (sT.mono (S':=fun _=>True) fun _ _ _=>trivial)
         clear sT mT
         have BB:=hid (BB.out.trans (bn.mono BB.out.size))
         (try have T4:=hid (T4.out.below bn (Nat.le_refl _)))
         (try have T9:=hid (T9.out.below bn (Nat.le_refl _)))
         (try have T10:=hid (T10.out.move (Below.dat bn) bn.size))
         (try have XI:=hid ((bn.block _ (Array.getElem?_eq_some_iff.1 XI.out).1).trans XI.out))
         clear bn
         obtain ⟨wc,rfl⟩:∃W,W=wn:=⟨_,rfl⟩
         (try dsimp only)
         have T9:=TN
         clear TN
         refine hK.out _ _ (by(exact BB.out)) (fun hHeld8=>?_)
         clear hK K
         (try simp only [Act.put,sA,sB,sC])
         refine tt_ready (rs:=[10]) (by decide +kernel) (allT_cons (by rfl) (fun K hK=>?_) allT_nil)
         have hpp:=hid (wplus_any (timesZ ⟨ng,x⟩ ⟨false,y'⟩).neg (timesZ ⟨mg,x'⟩ ⟨false,y⟩).neg aT4 aT9 (limbs (timesZ ⟨ng,x⟩ ⟨false,y'⟩).n).length (limbs (timesZ ⟨mg,x'⟩ ⟨false,y⟩).n).length cT4 cT9 (timesZ ⟨ng,x⟩ ⟨false,y'⟩).n (timesZ ⟨mg,x'⟩ ⟨false,y⟩).n wc T4.out T9.out hz1.out hz2.out)
         go_simp
         go_at_call 214
         refine hpp.out.mono ?_
         rintro ee wn ⟨aP,cP,rfl,sP,mP,bn⟩
         have TN:=hid (sP.mono (S':=DatF w0.heap.size wn) fun k _ h=>⟨h.1,Nat.le_trans BB.out.size h.2⟩)
         have LP:=hid mP
         clear sP mP hpp
         have BB:=hid (BB.out.trans (bn.mono BB.out.size))
         (try have T4:=hid (T4.out.below bn (Nat.le_refl _)))
         (try have T9:=hid (T9.out.below bn (Nat.le_refl _)))
         (try have T10:=hid (T10.out.move (Below.dat bn) bn.size))
         (try have XI:=hid ((bn.block _ (Array.getElem?_eq_some_iff.1 XI.out).1).trans XI.out))
         clear bn
         obtain ⟨wc,rfl⟩:∃W,W=wn:=⟨_,rfl⟩
         (try dsimp only)
         have T10:=TN
         clear TN
         refine hK.out _ _ (by(exact BB.out)) (fun hHeld9=>?_)
         clear hK K
         (try simp only [Act.put,sA,sB,sC])
         refine tt_tail (by decide +kernel) ?_
         simp only [List.drop_succ_cons,List.drop_zero]
         have x5:=XI.out
         have z0:=cell_p x5 0
         have z1:=cell_p x5 1
         have f0:=frz_p x5 0
         have f1:=frz_p x5 1
         simp only [List.getElem?_toArray,List.getElem?_cons_succ,List.getElem?_cons_zero] at z0 z1
         clear x5
         go_wp2
         go_meet
         case rel=>
          obtain ⟨k1,k2,k3⟩:=setL_dat (by decide) (by decide) [(0,.bool (plusZ (timesZ ⟨ng,x⟩ ⟨false,y'⟩) (timesZ ⟨mg,x'⟩ ⟨false,y⟩)).neg),(1,.slice aP (limbs (plusZ (timesZ ⟨ng,x⟩ ⟨false,y'⟩) (timesZ ⟨mg,x'⟩ ⟨false,y⟩)).n).length cP)] _ _ XI.out
          exact⟨⟨pI,aP,cP,rfl,set2 XI.out,(T10.out.move k1 (Nat.le_of_eq k2.symm)).mono fun _ _ _=>trivial,LP.out.1,LP.out.2⟩,k3 _ _ zI.out BB.out⟩
       ·skip
        go_simp
        have bn:Below wc.heap.size wc (wc.alloc (.cells #[.bool false,.slice none 0 0] 160)):=(Below.refl _ _).alloc (Nat.le_refl _) _
        have XN:=hid (heap_alloc_new wc (.cells #[.bool false,.slice none 0 0] 160))
        have zI:=hid BB.out.size
        generalize hwn:wc.alloc (.cells #[.bool false,.slice none 0 0] 160)=wn at *
        clear hwn
        have BB:=hid (BB.out.trans (bn.mono BB.out.size))
        (try have T4:=hid (T4.out.below bn (Nat.le_refl _)))
        (try have T9:=hid (T9.out.below bn (Nat.le_refl _)))
        (try have T10:=hid (T10.out.move (Below.dat bn) bn.size))
        (try have XI:=hid ((bn.block _ (Array.getElem?_eq_some_iff.1 XI.out).1).trans XI.out))
        clear bn
        generalize wc.heap.size=pI at *
        obtain ⟨wc,rfl⟩:∃W,W=wn:=⟨_,rfl⟩
        (try dsimp only)
        have XI:=XN
        clear XN
        refine hK.out _ _ (by(exact BB.out)) (fun hHeld5=>?_)
        clear hK K
        (try simp only [Act.put,sA,sB,sC])
        refine tt_ready (rs:=[6]) (by decide +kernel) (allT_cons (by rfl) (fun K hK=>?_) allT_nil)
        go_simp
        go_at_call 212
        refine(rnum_any _ _ _ _ _ _ _ wc).mono ?_
        rintro ee wn ⟨rfl,bn⟩
        have BB:=hid (BB.out.trans (bn.mono BB.out.size))
        (try have T4:=hid (T4.out.below bn (Nat.le_refl _)))
        (try have T9:=hid (T9.out.below bn (Nat.le_refl _)))
        (try have T10:=hid (T10.out.move (Below.dat bn) bn.size))
        (try have XI:=hid ((bn.block _ (Array.getElem?_eq_some_iff.1 XI.out).1).trans XI.out))
        clear bn
        obtain ⟨wc,rfl⟩:∃W,W=wn:=⟨_,rfl⟩
        (try dsimp only)
        refine hK.out _ _ (by(exact BB.out)) (fun hHeld6=>?_)
        clear hK K
        (try simp only [Act.put,sA,sB,sC])
        refine tt_ready (rs:=[8]) (by decide +kernel) (allT_cons (by rfl) (fun K hK=>?_) allT_nil)
        go_simp
        go_at_call 213
        refine(rden_any _ _ _ _ _ _ _ wc).mono ?_
        rintro ee wn ⟨rfl,bn⟩
        have BB:=hid (BB.out.trans (bn.mono BB.out.size))
        (try have T4:=hid (T4.out.below bn (Nat.le_refl _)))
        (try have T9:=hid (T9.out.below bn (Nat.le_refl _)))
        (try have T10:=hid (T10.out.move (Below.dat bn) bn.size))
        (try have XI:=hid ((bn.block _ (Array.getElem?_eq_some_iff.1 XI.out).1).trans XI.out))
        clear bn
        obtain ⟨wc,rfl⟩:∃W,W=wn:=⟨_,rfl⟩
        (try dsimp only)
        refine hK.out _ _ (by(exact BB.out)) (fun hHeld7=>?_)
        clear hK K
        (try simp only [Act.put,sA,sB,sC])
        refine tt_ready (rs:=[9]) (by decide +kernel) (allT_cons (by rfl) (fun K hK=>?_) allT_nil)
        go_simp
        go_at_call 211
        refine(ht9.out wc BB.out).mono ?_
        rintro ee wn ⟨aT9,cT9,rfl,sT,mT,bn⟩
        have TN:=hid (sT.mono (S':=fun _=>True) fun _ _ _=>trivial)
        clear sT mT
        have BB:=hid (BB.out.trans (bn.mono BB.out.size))
        (try have T4:=hid (T4.out.below bn (Nat.le_refl _)))
        (try have T9:=hid (T9.out.below bn (Nat.le_refl _)))
        (try have T10:=hid (T10.out.move (Below.dat bn) bn.size))
        (try have XI:=hid ((bn.block _ (Array.getElem?_eq_some_iff.1 XI.out).1).trans XI.out))
        clear bn
        obtain ⟨wc,rfl⟩:∃W,W=wn:=⟨_,rfl⟩
        (try dsimp only)
        have T9:=TN
        clear TN
        refine hK.out _ _ (by(exact BB.out)) (fun hHeld8=>?_)
        clear hK K
        (try simp only [Act.put,sA,sB,sC])
        refine tt_ready (rs:=[10]) (by decide +kernel) (allT_cons (by rfl) (fun K hK=>?_) allT_nil)
        have hpp:=hid (wplus_any (timesZ ⟨ng,x⟩ ⟨false,y'⟩).neg (timesZ ⟨mg,x'⟩ ⟨false,y⟩).neg aT4 aT9 (limbs (timesZ ⟨ng,x⟩ ⟨false,y'⟩).n).length (limbs (timesZ ⟨mg,x'⟩ ⟨false,y⟩).n).length cT4 cT9 (timesZ ⟨ng,x⟩ ⟨false,y'⟩).n (timesZ ⟨mg,x'⟩ ⟨false,y⟩).n wc T4.out T9.out hz1.out hz2.out)
        go_simp
        go_at_call 214
        refine hpp.out.mono ?_
        rintro ee wn ⟨aP,cP,rfl,sP,mP,bn⟩
        have TN:=hid (sP.mono (S':=DatF w0.heap.size wn) fun k _ h=>⟨h.1,Nat.le_trans BB.out.size h.2⟩)
        have LP:=hid mP
        clear sP mP hpp
        have BB:=hid (BB.out.trans (bn.mono BB.out.size))
        (try have T4:=hid (T4.out.below bn (Nat.le_refl _)))
        (try have T9:=hid (T9.out.below bn (Nat.le_refl _)))
        (try have T10:=hid (T10.out.move (Below.dat bn) bn.size))
        (try have XI:=hid ((bn.block _ (Array.getElem?_eq_some_iff.1 XI.out).1).trans XI.out))
        clear bn
        obtain ⟨wc,rfl⟩:∃W,W=wn:=⟨_,rfl⟩
        (try dsimp only)
        have T10:=TN
        clear TN
        refine hK.out _ _ (by(exact BB.out)) (fun hHeld9=>?_)
        clear hK K
        (try simp only [Act.put,sA,sB,sC])
        refine tt_tail (by decide +kernel) ?_
        simp only [List.drop_succ_cons,List.drop_zero]
        have x5:=XI.out
        have z0:=cell_p x5 0
        have z1:=cell_p x5 1
        have f0:=frz_p x5 0
        have f1:=frz_p x5 1
        simp only [List.getElem?_toArray,List.getElem?_cons_succ,List.getElem?_cons_zero] at z0 z1
        clear x5
        go_wp2
        go_meet
        case rel=>
         obtain ⟨k1,k2,k3⟩:=setL_dat (by decide) (by decide) [(0,.bool (plusZ (timesZ ⟨ng,x⟩ ⟨false,y'⟩) (timesZ ⟨mg,x'⟩ ⟨false,y⟩)).neg),(1,.slice aP (limbs (plusZ (timesZ ⟨ng,x⟩ ⟨false,y'⟩) (timesZ ⟨mg,x'⟩ ⟨false,y⟩)).n).length cP)] _ _ XI.out
         exact⟨⟨pI,aP,cP,rfl,set2 XI.out,(T10.out.move k1 (Nat.le_of_eq k2.symm)).mono fun _ _ _=>trivial,LP.out.1,LP.out.2⟩,k3 _ _ zI.out BB.out⟩
      ·skip
       go_simp
       have bn:Below wc.heap.size wc (wc.alloc (.cells #[.bool false,.slice none 0 0] 160)):=(Below.refl _ _).alloc (Nat.le_refl _) _
       have XN:=hid (heap_alloc_new wc (.cells #[.bool false,.slice none 0 0] 160))
       have zI:=hid BB.out.size
       generalize hwn:wc.alloc (.cells #[.bool false,.slice none 0 0] 160)=wn at *
       clear hwn
       have BB:=hid (BB.out.trans (bn.mono BB.out.size))
       (try have T4:=hid (T4.out.below bn (Nat.le_refl _)))
       (try have T9:=hid (T9.out.below bn (Nat.le_refl _)))
       (try have T10:=hid (T10.out.move (Below.dat bn) bn.size))
       (try have XI:=hid ((bn.block _ (Array.getElem?_eq_some_iff.1 XI.out).1).trans XI.out))
       clear bn
       generalize wc.heap.size=pI at *
       obtain ⟨wc,rfl⟩:∃W,W=wn:=⟨_,rfl⟩
       (try dsimp only)
       have XI:=XN
       clear XN
       refine hK.out _ _ (by(exact BB.out)) (fun hHeld4=>?_)
       clear hK K
       (try simp only [Act.put,sA,sB,sC])
       refine tt_ready (rs:=[4]) (by decide +kernel) (allT_cons (by rfl) (fun K hK=>?_) allT_nil)
       go_simp
       go_at_call 211
       refine(ht4.out wc BB.out).mono ?_
       rintro ee wn ⟨aT4,cT4,rfl,sT,mT,bn⟩
       have TN:=hid (sT.mono (S':=fun _=>True) fun _ _ _=>trivial)
       clear sT mT
       have BB:=hid (BB.out.trans (bn.mono BB.out.size))
       (try have T4:=hid (T4.out.below bn (Nat.le_refl _)))
       (try have T9:=hid (T9.out.below bn (Nat.le_refl _)))
       (try have T10:=hid (T10.out.move (Below.dat bn) bn.size))
       (try have XI:=hid ((bn.block _ (Array.getElem?_eq_some_iff.1 XI.out).1).trans XI.out))
       clear bn
       obtain ⟨wc,rfl⟩:∃W,W=wn:=⟨_,rfl⟩
       (try dsimp only)
       have T4:=TN
       clear TN
       refine hK.out _ _ (by(exact BB.out)) (fun hHeld5=>?_)
       clear hK K
       (try simp only [Act.put,sA,sB,sC])
       refine tt_ready (rs:=[6]) (by decide +kernel) (allT_cons (by rfl) (fun K hK=>?_) allT_nil)
       go_simp
       go_at_call 212
       refine(rnum_any _ _ _ _ _ _ _ wc).mono ?_
       rintro ee wn ⟨rfl,bn⟩
       have BB:=hid (BB.out.trans (bn.mono BB.out.size))
       (try have T4:=hid (T4.out.below bn (Nat.le_refl _)))
       (try have T9:=hid (T9.out.below bn (Nat.le_refl _)))
       (try have T10:=hid (T10.out.move (Below.dat bn) bn.size))
       (try have XI:=hid ((bn.block _ (Array.getElem?_eq_some_iff.1 XI.out).1).trans XI.out))
       clear bn
       obtain ⟨wc,rfl⟩:∃W,W=wn:=⟨_,rfl⟩
       (try dsimp only)
       refine hK.out _ _ (by(exact BB.out)) (fun hHeld6=>?_)
       clear hK K
       (try simp only [Act.put,sA,sB,sC])
       refine tt_ready (rs:=[8]) (by decide +kernel) (allT_cons (by rfl) (fun K hK=>?_) allT_nil)
       go_simp
       go_at_call 213
       refine(rden_any _ _ _ _ _ _ _ wc).mono ?_
       rintro ee wn ⟨rfl,bn⟩
       have BB:=hid (BB.out.trans (bn.mono BB.out.size))
       (try have T4:=hid (T4.out.below bn (Nat.le_refl _)))
       (try have T9:=hid (T9.out.below bn (Nat.le_refl _)))
       (try have T10:=hid (T10.out.move (Below.dat bn) bn.size))
       (try have XI:=hid ((bn.block _ (Array.getElem?_eq_some_iff.1 XI.out).1).trans XI.out))
       clear bn
       obtain ⟨wc,rfl⟩:∃W,W=wn:=⟨_,rfl⟩
       (try dsimp only)
       refine hK.out _ _ (by(exact BB.out)) (fun hHeld7=>?_)
       clear hK K
       (try simp only [Act.put,sA,sB,sC])
       refine tt_ready (rs:=[9]) (by decide +kernel) (allT_cons (by rfl) (fun K hK=>?_) allT_nil)
       go_simp
       go_at_call 211
       refine(ht9.out wc BB.out).mono ?_
       rintro ee wn ⟨aT9,cT9,rfl,sT,mT,bn⟩
       have TN:=hid (sT.mono (S':=fun _=>True) fun _ _ _=>trivial)
       clear sT mT
       have BB:=hid (BB.out.trans (bn.mono BB.out.size))
       (try have T4:=hid (T4.out.below bn (Nat.le_refl _)))
       (try have T9:=hid (T9.out.below bn (Nat.le_refl _)))
       (try have T10:=hid (T10.out.move (Below.dat bn) bn.size))
       (try have XI:=hid ((bn.block _ (Array.getElem?_eq_some_iff.1 XI.out).1).trans XI.out))
       clear bn
       obtain ⟨wc,rfl⟩:∃W,W=wn:=⟨_,rfl⟩
       (try dsimp only)
       have T9:=TN
       clear TN
       refine hK.out _ _ (by(exact BB.out)) (fun hHeld8=>?_)
       clear hK K
       (try simp only [Act.put,sA,sB,sC])
       refine tt_ready (rs:=[10]) (by decide +kernel) (allT_cons (by rfl) (fun K hK=>?_) allT_nil)
       have hpp:=hid (wplus_any (timesZ ⟨ng,x⟩ ⟨false,y'⟩).neg (timesZ ⟨mg,x'⟩ ⟨false,y⟩).neg aT4 aT9 (limbs (timesZ ⟨ng,x⟩ ⟨false,y'⟩).n).length (limbs (timesZ ⟨mg,x'⟩ ⟨false,y⟩).n).length cT4 cT9 (timesZ ⟨ng,x⟩ ⟨false,y'⟩).n (timesZ ⟨mg,x'⟩ ⟨false,y⟩).n wc T4.out T9.out hz1.out hz2.out)
       go_simp
       go_at_call 214
       refine hpp.out.mono ?_
       rintro ee wn ⟨aP,cP,rfl,sP,mP,bn⟩
       have TN:=hid (sP.mono (S':=DatF w0.heap.size wn) fun k _ h=>⟨h.1,Nat.le_trans BB.out.size h.2⟩)
       have LP:=hid mP
       clear sP mP hpp
       have BB:=hid (BB.out.trans (bn.mono BB.out.size))
       (try have T4:=hid (T4.out.below bn (Nat.le_refl _)))
       (try have T9:=hid (T9.out.below bn (Nat.le_refl _)))
       (try have T10:=hid (T10.out.move (Below.dat bn) bn.size))
       (try have XI:=hid ((bn.block _ (Array.getElem?_eq_some_iff.1 XI.out).1).trans XI.out))
       clear bn
       obtain ⟨wc,rfl⟩:∃W,W=wn:=⟨_,rfl⟩
       (try dsimp only)
       have T10:=TN
       clear TN
       refine hK.out _ _ (by(exact BB.out)) (fun hHeld9=>?_)
       clear hK K
       (try simp only [Act.put,sA,sB,sC])
       refine tt_tail (by decide +kernel) ?_
       simp only [List.drop_succ_cons,List.drop_zero]
       have x5:=XI.out
       have z0:=cell_p x5 0
       have z1:=cell_p x5 1
       have f0:=frz_p x5 0
       have f1:=frz_p x5 1
       simp only [List.getElem?_toArray,List.getElem?_cons_succ,List.getElem?_cons_zero] at z0 z1
       clear x5
       go_wp2
       go_meet
       case rel=>
        obtain ⟨k1,k2,k3⟩:=setL_dat (by decide) (by decide) [(0,.bool (plusZ (timesZ ⟨ng,x⟩ ⟨false,y'⟩) (timesZ ⟨mg,x'⟩ ⟨false,y⟩)).neg),(1,.slice aP (limbs (plusZ (timesZ ⟨ng,x⟩ ⟨false,y'⟩) (timesZ ⟨mg,x'⟩ ⟨false,y⟩)).n).length cP)] _ _ XI.out
        exact⟨⟨pI,aP,cP,rfl,set2 XI.out,(T10.out.move k1 (Nat.le_of_eq k2.symm)).mono fun _ _ _=>trivial,LP.out.1,LP.out.2⟩,k3 _ _ zI.out BB.out⟩
     ·skip
      go_simp
      have bn:Below wc.heap.size wc (wc.alloc (.cells #[.bool false,.slice none 0 0] 160)):=(Below.refl _ _).alloc (Nat.le_refl _) _
      have XN:=hid (heap_alloc_new wc (.cells #[.bool false,.slice none 0 0] 160))
      have zI:=hid BB.out.size
      generalize hwn:wc.alloc (.cells #[.bool false,.slice none 0 0] 160)=wn at *
      clear hwn
      have BB:=hid (BB.out.trans (bn.mono BB.out.size))
      (try have T4:=hid (T4.out.below bn (Nat.le_refl _)))
      (try have T9:=hid (T9.out.below bn (Nat.le_refl _)))
      (try have T10:=hid (T10.out.move (Below.dat bn) bn.size))
      (try have XI:=hid ((bn.block _ (Array.getElem?_eq_some_iff.1 XI.out).1).trans XI.out))
      clear bn
      generalize wc.heap.size=pI at *
      obtain ⟨wc,rfl⟩:∃W,W=wn:=⟨_,rfl⟩
      (try dsimp only)
      have XI:=XN
      clear XN
      refine hK.out _ _ (by(exact BB.out)) (fun hHeld3=>?_)
      clear hK K
      (try simp only [Act.put,sA,sB,sC])
      refine tt_ready (rs:=[3]) (by decide +kernel) (allT_cons (by rfl) (fun K hK=>?_) allT_nil)
      go_simp
      go_at_call 213
      refine(rden_any _ _ _ _ _ _ _ wc).mono ?_
      rintro ee wn ⟨rfl,bn⟩
      have BB:=hid (BB.out.trans (bn.mono BB.out.size))
      (try have T4:=hid (T4.out.below bn (Nat.le_refl _)))
      (try have T9:=hid (T9.out.below bn (Nat.le_refl _)))
      (try have T10:=hid (T10.out.move (Below.dat bn) bn.size))
      (try have XI:=hid ((bn.block _ (Array.getElem?_eq_some_iff.1 XI.out).1).trans XI.out))
      clear bn
      obtain ⟨wc,rfl⟩:∃W,W=wn:=⟨_,rfl⟩
      (try dsimp only)
      refine hK.out _ _ (by(exact BB.out)) (fun hHeld4=>?_)
      clear hK K
      (try simp only [Act.put,sA,sB,sC])
      refine tt_ready (rs:=[4]) (by decide +kernel) (allT_cons (by rfl) (fun K hK=>?_) allT_nil)
      go_simp
      go_at_call 211
      refine(ht4.out wc BB.out).mono ?_
      rintro ee wn ⟨aT4,cT4,rfl,sT,mT,bn⟩
      have TN:=hid (sT.mono (S':=fun _=>True) fun _ _ _=>trivial)
      clear sT mT
      have BB:=hid (BB.out.trans (bn.mono BB.out.size))
      (try have T4:=hid (T4.out.below bn (Nat.le_refl _)))
      (try have T9:=hid (T9.out.below bn (Nat.le_refl _)))
      (try have T10:=hid (T10.out.move (Below.dat bn) bn.size))
      (try have XI:=hid ((bn.block _ (Array.getElem?_eq_some_iff.1 XI.out).1).trans XI.out))
      clear bn
      obtain ⟨wc,rfl⟩:∃W,W=wn:=⟨_,rfl⟩
      (try dsimp only)
      have T4:=TN
      clear TN
      refine hK.out _ _ (by(exact BB.out)) (fun hHeld5=>?_)
      clear hK K
      (try simp only [Act.put,sA,sB,sC])
      refine tt_ready (rs:=[6]) (by decide +kernel) (allT_cons (by rfl) (fun K hK=>?_) allT_nil)
      go_simp
      go_at_call 212
      refine(rnum_any _ _ _ _ _ _ _ wc).mono ?_
      rintro ee wn ⟨rfl,bn⟩
      have BB:=hid (BB.out.trans (bn.mono BB.out.size))
      (try have T4:=hid (T4.out.below bn (Nat.le_refl _)))
      (try have T9:=hid (T9.out.below bn (Nat.le_refl _)))
      (try have T10:=hid (T10.out.move (Below.dat bn) bn.size))
      (try have XI:=hid ((bn.block _ (Array.getElem?_eq_some_iff.1 XI.out).1).trans XI.out))
      clear bn
      obtain ⟨wc,rfl⟩:∃W,W=wn:=⟨_,rfl⟩
      (try dsimp only)
      refine hK.out _ _ (by(exact BB.out)) (fun hHeld6=>?_)
      clear hK K
      (try simp only [Act.put,sA,sB,sC])
      refine tt_ready (rs:=[8]) (by decide +kernel) (allT_cons (by rfl) (fun K hK=>?_) allT_nil)
      go_simp
      go_at_call 213
      refine(rden_any _ _ _ _ _ _ _ wc).mono ?_
      rintro ee wn ⟨rfl,bn⟩
      have BB:=hid (BB.out.trans (bn.mono BB.out.size))
      (try have T4:=hid (T4.out.below bn (Nat.le_refl _)))
      (try have T9:=hid (T9.out.below bn (Nat.le_refl _)))
      (try have T10:=hid (T10.out.move (Below.dat bn) bn.size))
      (try have XI:=hid ((bn.block _ (Array.getElem?_eq_some_iff.1 XI.out).1).trans XI.out))
      clear bn
      obtain ⟨wc,rfl⟩:∃W,W=wn:=⟨_,rfl⟩
      (try dsimp only)
      refine hK.out _ _ (by(exact BB.out)) (fun hHeld7=>?_)
      clear hK K
      (try simp only [Act.put,sA,sB,sC])
      refine tt_ready (rs:=[9]) (by decide +kernel) (allT_cons (by rfl) (fun K hK=>?_) allT_nil)
      go_simp
      go_at_call 211
      refine(ht9.out wc BB.out).mono ?_
      rintro ee wn ⟨aT9,cT9,rfl,sT,mT,bn⟩
      have TN:=hid (sT.mono (S':=fun _=>True) fun _ _ _=>trivial)
      clear sT mT
      have BB:=hid (BB.out.trans (bn.mono BB.out.size))
      (try have T4:=hid (T4.out.below bn (Nat.le_refl _)))
      (try have T9:=hid (T9.out.below bn (Nat.le_refl _)))
      (try have T10:=hid (T10.out.move (Below.dat bn) bn.size))
      (try have XI:=hid ((bn.block _ (Array.getElem?_eq_some_iff.1 XI.out).1).trans XI.out))
      clear bn
      obtain ⟨wc,rfl⟩:∃W,W=wn:=⟨_,rfl⟩
      (try dsimp only)
      have T9:=TN
      clear TN
      refine hK.out _ _ (by(exact BB.out)) (fun hHeld8=>?_)
      clear hK K
      (try simp only [Act.put,sA,sB,sC])
      refine tt_ready (rs:=[10]) (by decide +kernel) (allT_cons (by rfl) (fun K hK=>?_) allT_nil)
      have hpp:=hid (wplus_any (timesZ ⟨ng,x⟩ ⟨false,y'⟩).neg (timesZ ⟨mg,x'⟩ ⟨false,y⟩).neg aT4 aT9 (limbs (timesZ ⟨ng,x⟩ ⟨false,y'⟩).n).length (limbs (timesZ ⟨mg,x'⟩ ⟨false,y⟩).n).length cT4 cT9 (timesZ ⟨ng,x⟩ ⟨false,y'⟩).n (timesZ ⟨mg,x'⟩ ⟨false,y⟩).n wc T4.out T9.out hz1.out hz2.out)
      go_simp
      go_at_call 214
      refine hpp.out.mono ?_
      rintro ee wn ⟨aP,cP,rfl,sP,mP,bn⟩
      have TN:=hid (sP.mono (S':=DatF w0.heap.size wn) fun k _ h=>⟨h.1,Nat.le_trans BB.out.size h.2⟩)
      have LP:=hid mP
      clear sP mP hpp
      have BB:=hid (BB.out.trans (bn.mono BB.out.size))
      (try have T4:=hid (T4.out.below bn (Nat.le_refl _)))
      (try have T9:=hid (T9.out.below bn (Nat.le_refl _)))
      (try have T10:=hid (T10.out.move (Below.dat bn) bn.size))
      (try have XI:=hid ((bn.block _ (Array.getElem?_eq_some_iff.1 XI.out).1).trans XI.out))
      clear bn
      obtain ⟨wc,rfl⟩:∃W,W=wn:=⟨_,rfl⟩
      (try dsimp only)
      have T10:=TN
      clear TN
      refine hK.out _ _ (by(exact BB.out)) (fun hHeld9=>?_)
      clear hK K
      (try simp only [Act.put,sA,sB,sC])
      refine tt_tail (by decide +kernel) ?_
      simp only [List.drop_succ_cons,List.drop_zero]
      have x5:=XI.out
      have z0:=cell_p x5 0
      have z1:=cell_p x5 1
      have f0:=frz_p x5 0
      have f1:=frz_p x5 1
      simp only [List.getElem?_toArray,List.getElem?_cons_succ,List.getElem?_cons_zero] at z0 z1
      clear x5
      go_wp2
      go_meet
      case rel=>
       obtain ⟨k1,k2,k3⟩:=setL_dat (by decide) (by decide) [(0,.bool (plusZ (timesZ ⟨ng,x⟩ ⟨false,y'⟩) (timesZ ⟨mg,x'⟩ ⟨false,y⟩)).neg),(1,.slice aP (limbs (plusZ (timesZ ⟨ng,x⟩ ⟨false,y'⟩) (timesZ ⟨mg,x'⟩ ⟨false,y⟩)).n).length cP)] _ _ XI.out
       exact⟨⟨pI,aP,cP,rfl,set2 XI.out,(T10.out.move k1 (Nat.le_of_eq k2.symm)).mono fun _ _ _=>trivial,LP.out.1,LP.out.2⟩,k3 _ _ zI.out BB.out⟩
    ·skip
     go_simp
     have bn:Below wc.heap.size wc (wc.alloc (.cells #[.bool false,.slice none 0 0] 160)):=(Below.refl _ _).alloc (Nat.le_refl _) _
     have XN:=hid (heap_alloc_new wc (.cells #[.bool false,.slice none 0 0] 160))
     have zI:=hid BB.out.size
     generalize hwn:wc.alloc (.cells #[.bool false,.slice none 0 0] 160)=wn at *
     clear hwn
     have BB:=hid (BB.out.trans (bn.mono BB.out.size))
     (try have T4:=hid (T4.out.below bn (Nat.le_refl _)))
     (try have T9:=hid (T9.out.below bn (Nat.le_refl _)))
     (try have T10:=hid (T10.out.move (Below.dat bn) bn.size))
     (try have XI:=hid ((bn.block _ (Array.getElem?_eq_some_iff.1 XI.out).1).trans XI.out))
     clear bn
     generalize wc.heap.size=pI at *
     obtain ⟨wc,rfl⟩:∃W,W=wn:=⟨_,rfl⟩
     (try dsimp only)
     have XI:=XN
     clear XN
     refine hK.out _ _ (by(exact BB.out)) (fun hHeld2=>?_)
     clear hK K
     (try simp only [Act.put,sA,sB,sC])
     refine tt_ready (rs:=[1]) (by decide +kernel) (allT_cons (by rfl) (fun K hK=>?_) allT_nil)
     go_simp
     go_at_call 212
     refine(rnum_any _ _ _ _ _ _ _ wc).mono ?_
     rintro ee wn ⟨rfl,bn⟩
     have BB:=hid (BB.out.trans (bn.mono BB.out.size))
     (try have T4:=hid (T4.out.below bn (Nat.le_refl _)))
     (try have T9:=hid (T9.out.below bn (Nat.le_refl _)))
     (try have T10:=hid (T10.out.move (Below.dat bn) bn.size))
     (try have XI:=hid ((bn.block _ (Array.getElem?_eq_some_iff.1 XI.out).1).trans XI.out))
     clear bn
     obtain ⟨wc,rfl⟩:∃W,W=wn:=⟨_,rfl⟩
     (try dsimp only)
     refine hK.out _ _ (by(exact BB.out)) (fun hHeld3=>?_)
     clear hK K
     (try simp only [Act.put,sA,sB,sC])
     refine tt_ready (rs:=[3]) (by decide +kernel) (allT_cons (by rfl) (fun K hK=>?_) allT_nil)
     go_simp
     go_at_call 213
     refine(rden_any _ _ _ _ _ _ _ wc).mono ?_
     rintro ee wn ⟨rfl,bn⟩
     have BB:=hid (BB.out.trans (bn.mono BB.out.size))
     (try have T4:=hid (T4.out.below bn (Nat.le_refl _)))
     (try have T9:=hid (T9.out.below bn (Nat.le_refl _)))
     (try have T10:=hid (T10.out.move (Below.dat bn) bn.size))
     (try have XI:=hid ((bn.block _ (Array.getElem?_eq_some_iff.1 XI.out).1).trans XI.out))
     clear bn
     obtain ⟨wc,rfl⟩:∃W,W=wn:=⟨_,rfl⟩
     (try dsimp only)
     refine hK.out _ _ (by(exact BB.out)) (fun hHeld4=>?_)
     clear hK K
     (try simp only [Act.put,sA,sB,sC])
     refine tt_ready (rs:=[4]) (by decide +kernel) (allT_cons (by rfl) (fun K hK=>?_) allT_nil)
     go_simp
     go_at_call 211
     refine(ht4.out wc BB.out).mono ?_
     rintro ee wn ⟨aT4,cT4,rfl,sT,mT,bn⟩
     have TN:=hid (sT.mono (S':=fun _=>True) fun _ _ _=>trivial)
     clear sT mT
     have BB:=hid (BB.out.trans (bn.mono BB.out.size))
     (try have T4:=hid (T4.out.below bn (Nat.le_refl _)))
     (try have T9:=hid (T9.out.below bn (Nat.le_refl _)))
     (try have T10:=hid (T10.out.move (Below.dat bn) bn.size))
     (try have XI:=hid ((bn.block _ (Array.getElem?_eq_some_iff.1 XI.out).1).trans XI.out))
     clear bn
     obtain ⟨wc,rfl⟩:∃W,W=wn:=⟨_,rfl⟩
     (try dsimp only)
     have T4:=TN
     clear TN
     refine hK.out _ _ (by(exact BB.out)) (fun hHeld5=>?_)
     clear hK K
     (try simp only [Act.put,sA,sB,sC])
     refine tt_ready (rs:=[6]) (by decide +kernel) (allT_cons (by rfl) (fun K hK=>?_) allT_nil)
     go_simp
     go_at_call 212
     refine(rnum_any _ _ _ _ _ _ _ wc).mono ?_
     rintro ee wn ⟨rfl,bn⟩
     have BB:=hid (BB.out.trans (bn.mono BB.out.size))
     (try have T4:=hid (T4.out.below bn (Nat.le_refl _)))
     (try have T9:=hid (T9.out.below bn (Nat.le_refl _)))
     (try have T10:=hid (T10.out.move (Below.dat bn) bn.size))
     (try have XI:=hid ((bn.block _ (Array.getElem?_eq_some_iff.1 XI.out).1).trans XI.out))
     clear bn
     obtain ⟨wc,rfl⟩:∃W,W=wn:=⟨_,rfl⟩
     (try dsimp only)
     refine hK.out _ _ (by(exact BB.out)) (fun hHeld6=>?_)
     clear hK K
     (try simp only [Act.put,sA,sB,sC])
     refine tt_ready (rs:=[8]) (by decide +kernel) (allT_cons (by rfl) (fun K hK=>?_) allT_nil)
     go_simp
     go_at_call 213
     refine(rden_any _ _ _ _ _ _ _ wc).mono ?_
     rintro ee wn ⟨rfl,bn⟩
     have BB:=hid (BB.out.trans (bn.mono BB.out.size))
     (try have T4:=hid (T4.out.below bn (Nat.le_refl _)))
     (try have T9:=hid (T9.out.below bn (Nat.le_refl _)))
     (try have T10:=hid (T10.out.move (Below.dat bn) bn.size))
     (try have XI:=hid ((bn.block _ (Array.getElem?_eq_some_iff.1 XI.out).1).trans XI.out))
     clear bn
     obtain ⟨wc,rfl⟩:∃W,W=wn:=⟨_,rfl⟩
     (try dsimp only)
     refine hK.out _ _ (by(exact BB.out)) (fun hHeld7=>?_)
     clear hK K
     (try simp only [Act.put,sA,sB,sC])
     refine tt_ready (rs:=[9]) (by decide +kernel) (allT_cons (by rfl) (fun K hK=>?_) allT_nil)
     go_simp
     go_at_call 211
     refine(ht9.out wc BB.out).mono ?_
     rintro ee wn ⟨aT9,cT9,rfl,sT,mT,bn⟩
     have TN:=hid (sT.mono (S':=fun _=>True) fun _ _ _=>trivial)
     clear sT mT
     have BB:=hid (BB.out.trans (bn.mono BB.out.size))
     (try have T4:=hid (T4.out.below bn (Nat.le_refl _)))
     (try have T9:=hid (T9.out.below bn (Nat.le_refl _)))
     (try have T10:=hid (T10.out.move (Below.dat bn) bn.size))
     (try have XI:=hid ((bn.block _ (Array.getElem?_eq_some_iff.1 XI.out).1).trans XI.out))
     clear bn
     obtain ⟨wc,rfl⟩:∃W,W=wn:=⟨_,rfl⟩
     (try dsimp only)
     have T9:=TN
     clear TN
     refine hK.out _ _ (by(exact BB.out)) (fun hHeld8=>?_)
     clear hK K
     (try simp only [Act.put,sA,sB,sC])
     refine tt_ready (rs:=[10]) (by decide +kernel) (allT_cons (by rfl) (fun K hK=>?_) allT_nil)
     have hpp:=hid (wplus_any (timesZ ⟨ng,x⟩ ⟨false,y'⟩).neg (timesZ ⟨mg,x'⟩ ⟨false,y⟩).neg aT4 aT9 (limbs (timesZ ⟨ng,x⟩ ⟨false,y'⟩).n).length (limbs (timesZ ⟨mg,x'⟩ ⟨false,y⟩).n).length cT4 cT9 (timesZ ⟨ng,x⟩ ⟨false,y'⟩).n (timesZ ⟨mg,x'⟩ ⟨false,y⟩).n wc T4.out T9.out hz1.out hz2.out)
     go_simp
     go_at_call 214
     refine hpp.out.mono ?_
     rintro ee wn ⟨aP,cP,rfl,sP,mP,bn⟩
     have TN:=hid (sP.mono (S':=DatF w0.heap.size wn) fun k _ h=>⟨h.1,Nat.le_trans BB.out.size h.2⟩)
     have LP:=hid mP
     clear sP mP hpp
     have BB:=hid (BB.out.trans (bn.mono BB.out.size))
     (try have T4:=hid (T4.out.below bn (Nat.le_refl _)))
     (try have T9:=hid (T9.out.below bn (Nat.le_refl _)))
     (try have T10:=hid (T10.out.move (Below.dat bn) bn.size))
     (try have XI:=hid ((bn.block _ (Array.getElem?_eq_some_iff.1 XI.out).1).trans XI.out))
     clear bn
     obtain ⟨wc,rfl⟩:∃W,W=wn:=⟨_,rfl⟩
     (try dsimp only)
     have T10:=TN
     clear TN
     refine hK.out _ _ (by(exact BB.out)) (fun hHeld9=>?_)
     clear hK K
     (try simp only [Act.put,sA,sB,sC])
     refine tt_tail (by decide +kernel) ?_
     simp only [List.drop_succ_cons,List.drop_zero]
     have x5:=XI.out
     have z0:=cell_p x5 0
     have z1:=cell_p x5 1
     have f0:=frz_p x5 0
     have f1:=frz_p x5 1
     simp only [List.getElem?_toArray,List.getElem?_cons_succ,List.getElem?_cons_zero] at z0 z1
     clear x5
     go_wp2
     go_meet
     case rel=>
      obtain ⟨k1,k2,k3⟩:=setL_dat (by decide) (by decide) [(0,.bool (plusZ (timesZ ⟨ng,x⟩ ⟨false,y'⟩) (timesZ ⟨mg,x'⟩ ⟨false,y⟩)).neg),(1,.slice aP (limbs (plusZ (timesZ ⟨ng,x⟩ ⟨false,y'⟩) (timesZ ⟨mg,x'⟩ ⟨false,y⟩)).n).length cP)] _ _ XI.out
      exact⟨⟨pI,aP,cP,rfl,set2 XI.out,(T10.out.move k1 (Nat.le_of_eq k2.symm)).mono fun _ _ _=>trivial,LP.out.1,LP.out.2⟩,k3 _ _ zI.out BB.out⟩
   case rest=>
    obtain ⟨⟨p,aS,cS,rfl,hp,SZ,ls1,ls2⟩,hW⟩:=hcut
    have LS:=hid (And.intro ls1 ls2)
    have zq0:=cell_p hp.out 0
    have zq1:=cell_p hp.out 1
    simp only [List.getElem?_toArray,List.getElem?_cons_succ,List.getElem?_cons_zero] at zq0 zq1
    have X1:=hid ((hW.out.block _ (Array.getElem?_eq_some_iff.1 X0.out).1).trans X0.out)
    have HB:=hid (hB0.out.trans (hW.out.mono hB0.out.size))
    clear q0 q1 q2 r0 r1 r2
    obtain ⟨⟨_,_,q2⟩,_,_,r2⟩:=hcB.out wc hW.out
    clear hz1 hz2 ht4 ht9 hcB hp ls1 ls2 hW X0 hB0 hsz
    clear w0
    obtain ⟨w0,rfl⟩:∃W,W=wc:=⟨_,rfl⟩
    have X0:=X1
    have hB0:=HB
    have hsz:=hid hB0.out.size
    clear X1 HB
    have ht2:=hid (fun W (hb:Below w0.heap.size w0 W)=>natTimes_any b b' (limbs y).length (limbs y').length d d' y y' W (H.out.den.below (hB0.out.trans (hb.mono hB0.out.size)) (Nat.le_refl _)) (K.out.den.below (hB0.out.trans (hb.mono hB0.out.size)) (Nat.le_refl _)) (by omega) (by omega))
    have hz2:=hid (show(limbs (y * y')).length≤274877906944 from Nat.le_trans (limbs_mul_le ly ly') (by decide))
    have hz0:=hid (show 0<y * y' from Nat.mul_pos hy0 hy0')
    generalize (plusZ (timesZ ⟨ng,x⟩ ⟨false,y'⟩) (timesZ ⟨mg,x'⟩ ⟨false,y⟩))=z at *
    generalize y * y'=z2 at *
    go_wp2
    refine wp_region_tt (S:=fun W=>Below w0.heap.size w0 W) 12 (by kernel_rfl) (by kernel_rfl) (keep_drew w0) (fun _=>?_)
    refine tk (i:=0) (h:=?_)
    (try simp only [Act.put,sA,sB,sC])
    refine tk (i:=1) (hy:=(Or.inl ⟨by rfl,by(intro W hSw;have hq:=keep_cell hSw zq0;go_simp <;> with_reducible rfl)⟩)) (h:=?_)
    (try simp only [Act.put,sA,sB,sC])
    refine tk (i:=2) (h:=?_)
    (try simp only [Act.put,sA,sB,sC])
    refine tk (i:=3) (hy:=(Or.inl ⟨by rfl,by(intro W hSw;have hq:=keep_cell hSw zq1;go_simp <;> with_reducible rfl)⟩)) (h:=?_)
    (try simp only [Act.put,sA,sB,sC])
    refine tk (i:=4) (h:=?_)
    (try simp only [Act.put,sA,sB,sC])
    refine tk (i:=5) (hy:=(Or.inl ⟨by rfl,by(intro W hSw;have hq:=keep_cell hSw q2;go_simp <;> with_reducible rfl)⟩)) (h:=?_)
    (try simp only [Act.put,sA,sB,sC])
    refine tk (i:=6) (h:=?_)
    (try simp only [Act.put,sA,sB,sC])
    refine tk (i:=7) (hy:=(Or.inl ⟨by rfl,by(intro W hSw;have hq:=keep_cell hSw r2;go_simp <;> with_reducible rfl)⟩)) (h:=?_)
    (try simp only [Act.put,sA,sB,sC])
    refine tt_ready (rs:=[8]) (by decide +kernel) (allT_cons (by rfl) (fun K hK=>?_) allT_nil)
    go_simp
    go_at_call 216
    refine(ht2.out _ (keep_drew w0)).mono ?_
    rintro ee w14 ⟨a14,c14,rfl,s14,l14,m14,b14⟩
    have B14:Below w0.heap.size w0 w14:=(keep_drew w0).trans (b14.mono (keep_drew w0).size)
    have hlo:=hid (lowest_any z.neg aS a14 (limbs z.n).length (limbs z2).length cS c14 z.n z2 w14 (SZ.out.below B14 (Nat.le_refl _)) (s14.mono (S':=fun _=>True) fun _ _ _=>trivial) hzl.out hz2.out LS.out ⟨l14,m14⟩ hz0.out)
    clear s14 b14 l14 m14 ht2
    generalize lowestR z.neg z.n z2=res at *
    obtain ⟨R,er⟩:=res
    dsimp only
    refine hK.out _ _ (by(exact B14)) (fun hHeld2=>?_)
    clear hK K
    (try simp only [Act.put,sA,sB,sC])
    refine tt_ready (rs:=[9]) (by decide +kernel) (allT_cons (by rfl) (fun K hK=>?_) allT_nil)
    go_simp
    go_at_call 215
    refine hlo.out.mono ?_
    rintro ee w15 ⟨v15,rfl,a15,c15,d15,e15,hv15,p1,p2,p3,p4,b15⟩
    cases hv15
    have zB:=B14.size
    have B15:Below w0.heap.size w0 w15:=B14.trans (b15.mono B14.size)
    have P1:=hid p1
    have P2:=hid p2
    have P3:=hid p3
    have P4:=hid p4
    clear p1 p2 p3 p4 b15 hlo
    dsimp only
    refine hK.out _ _ (by(exact B15)) (fun hHeld3=>?_)
    clear hK K
    (try simp only [Act.put,sA,sB,sC])
    refine tk (i:=10) (h:=?_)
    (try simp only [Act.put,sA,sB,sC])
    refine tk (i:=11) (h:=?_)
    (try simp only [Act.put,sA,sB,sC])
    refine tt_tail (by decide +kernel) ?_
    simp only [List.drop_succ_cons,List.drop_zero]
    have x5:=(B15.block _ (Array.getElem?_eq_some_iff.1 X0.out).1).trans X0.out
    have X5:=hid x5
    have z0:=cell_p x5 0
    have z1:=cell_p x5 1
    have z2:=cell_p x5 2
    have f0:=frz_p x5 0
    have f1:=frz_p x5 1
    have f2:=frz_p x5 2
    simp only [List.getElem?_toArray,List.getElem?_cons_succ,List.getElem?_cons_zero] at z0 z1 z2
    clear x5
    go_wp2
    refine bodyPost_ret (v:=.tuple #[ratV R a15 c15 d15 e15,.int .i64 er]) (by simp [results,Tryz.results182,go_sem, *]) rfl ?_
    rw [hdm.out]
    exact⟨_,rfl,RatPost.set (r:=R) (by decide) (by decide) X5.out (by omega) (P1.out.mono fun k _ h=>⟨h.1,Nat.le_trans (Nat.le_trans hsz.out zB) h.2⟩) (P2.out.mono fun k _ h=>⟨h.1,Nat.le_trans (Nat.le_trans hsz.out zB) h.2⟩) P3.out P4.out (hB0.out.trans (B15.mono hB0.out.size)) [(0,.bool R.neg),(1,.slice a15 R.num.length c15),(2,.slice d15 R.den.length e15)]⟩
end
end Go.Proofs.YtgoojkiccdjplaaGreatDoor
