/-
  Parts of this claim's texts, one behind the other: VK CW. No condition.
-/
import Derived.Test.YtgoojkiccdjplaaGreatDoorM38
import Derived.Test.YtgoojkiccdjplaaGreatDoorM42
import Derived.Test.YtgoojkiccdjplaaGreatDoorM34
import Derived.Test.YtgoojkiccdjplaaGreatDoorM35
set_option linter.unusedVariables false
set_option linter.unusedSimpArgs false
set_option maxRecDepth 100000
set_option maxHeartbeats 16000000
namespace Go.Proofs.YtgoojkiccdjplaaGreatDoor
open Go.RowKit Go.Sort Go.Lib
set_option linter.unusedSimpArgs false
theorem fn_call {w0 w:World} {p:Nat} {T:TermD} {X:Nat→Prop} (hE:EnvT w0) (h:St w0 p { T with X:=X } w) (hG:TermG T) (a:Int) (ha:okI a) :
  Calls Tryz.prog 33 #[.pointer (some ⟨p,0,none⟩),.int .i64 12,.string sf,.agg #[.bool false,.slice none 0 0,.slice none 0 0],.slice (some ⟨w.heap.size,0,none⟩) 1 1] (w.alloc (.cells #[.int .i64 a] 3)) fun e w'=>
   e = .returned (.tuple #[.int .i64 (makeD T 12 sf noRat [a]).1.1,.int .i64 (makeD T 12 sf noRat [a]).1.2])∧St w0 p { (makeD T 12 sf noRat [a]).2 with X:=X } w'∧TStep p w w':=by
 have hl:=h.lit (.cells #[.int .i64 a] 3)
 have ha:=lit_args w 12 [a] ⟨by decide,by decide⟩ (by intro x hx;simp at hx;subst hx;exact ha) (by show 1≤maxLen;decide) (by decide)
 have hm:=make_any w0.heap.size p { T with X:=X } 12 sf noRat [a] none none (some ⟨w.heap.size,0,none⟩) 0 0 1 _ hl.t (hG.ok.sm.X X) (hl.env hE) ⟨ha.rnum,ha.rden,ha.rargs,ha.nc,ha.dc,ha.ac,ha.nl,by decide,ha.opk,ha.one⟩
 unfold MakePost at hm
 rw [makeD_X] at hm
 refine hm.mono ?_
 rintro e w' ⟨rfl,t,s⟩
 exact⟨rfl,hl.step t s,(TStep.of_below h.t.plt ((Below.refl _ _).alloc (Nat.le_refl _) _)).trans s⟩
theorem plainT_X (T:TermD) (X:Nat→Prop) (id:Int):plainT { T with X:=X } id=plainT T id:=by
 unfold plainT
 rw [anyT_X]
 rfl
theorem v1_e:makeD A1 12 sf noRat [0]=((1,0),(fnN 1).2):=(fn_e (k:=0) (by omega)).trans (Prod.ext (Prod.ext (by decide +kernel) rfl) rfl)
theorem v2_e:makeD (fnN 1).2 12 sf noRat [1]=((2,0),(fnN 2).2):=by
 have h:=fn_e (k:=1) (by omega)
 rw [show(fnN 1).1=1 from by decide +kernel] at h
 exact h.trans (Prod.ext (Prod.ext (by decide +kernel) rfl) rfl)
def Q3:TermD:=(mk2 (fnN 2).2 8 2 0).2
def Q4:TermD:=(allFlat Q3 [3]).2
theorem v3_e:mk2 (fnN 2).2 8 2 0=((3,0),Q3):=Prod.ext (by decide +kernel) rfl
def keyM (m:MadeD):Int × ByteArray × List Int:=(m.var,m.fn,m.args)
theorem keyM_inj {l m : List MadeD} (h : l.map keyM = m.map keyM) : l = m := by
  induction l generalizing m with
  | nil => cases m with
    | nil => rfl
    | cons b m => cases h
  | cons a l ih => cases m with
    | nil => cases h
    | cons b m =>
      obtain ⟨a1, a2, a3⟩ := a
      obtain ⟨b1, b2, b3⟩ := b
      simp only [List.map_cons, List.cons.injEq] at h
      obtain ⟨h1, h2⟩ := h
      unfold keyM at h1
      injection h1 with e1 e2
      injection e2 with e2 e3
      dsimp only at e1 e2 e3
      rw [ih h2, e1, e2, e3]
theorem v4_o:(allFlat Q3 [3]).1.1 = [6]:=by decide +kernel
theorem v4_m:(allFlat Q3 [3]).1.2.1 = [⟨4,sf,[0]⟩,⟨5,sf,[4]⟩]:=keyM_inj (by decide +kernel)
theorem v4_r:(allFlat Q3 [3]).1.2.2.1 = []∧(allFlat Q3 [3]).1.2.2.2=0:=by decide +kernel
theorem v5_b:boolsT Q4 [0]=false:=by decide +kernel
theorem v5_e:allFlat Q4 [0]=(([],[],[],1),Q4):=by unfold allFlat;rw [v5_b];rfl
theorem v6_p:plainT Q4 6=true∧plainT Q4 3=false:=by decide +kernel
theorem q_fr:Q3.fresh≤1000000000∧Q4.fresh≤1000000000:=by decide +kernel
theorem g_Q3:TermG Q3:=mk2_grow (fn_g (k:=2) (by omega)).1 _ _ _
theorem okSI {x:Int} (h:0≤x∧x≤100):∀y ∈ [x],okI y:=fun y hy=>by simp at hy;subst hy;exact okI_n h
theorem awake17_any (w:World) (hE:EnvT w):Calls Tryz.prog 23 #[] w fun e w'=>e = .returned (.bool true)∧Below w.heap.size w w':=by
 have hE':=hid hE
 have htb:=hid (tables17_any w hE.env)
 clear hE
 go_enter Tryz.func23,Tryz.ntmps23
 go_wp2_with fail
 refine htb.out.mono ?_;rintro e w1 ⟨p,r,rfl,t1,b1⟩
 have I1:=hid (show St w p { A0 with X:=NoX } w1 from⟨t1,b1⟩)
 have h1:=app_call hE'.out I1.out g_A0 sx (by decide)
 rw [mk_x] at h1
 have h1':=hid h1
 clear t1 b1 htb h1
 go_wp2_with fail
 refine h1'.out.mono ?_;rintro e w2 ⟨rfl,i2,_⟩
 have I2:=hid i2
 have h2:=fn_call hE'.out I2.out g_A1 0 okI_0
 rw [v1_e] at h2
 have h2':=hid h2
 clear i2 h1' h2 I1
 go_wp2_with fail
 refine h2'.out.mono ?_;rintro e w3 ⟨rfl,i3,_⟩
 have I3:=hid i3
 have h3:=fn_call hE'.out I3.out (fn_g (k:=1) (by omega)).1 1 (okI_n (by decide))
 rw [v2_e] at h3
 have h3':=hid h3
 clear i3 h2' h3 I2
 go_wp2_with fail
 refine h3'.out.mono ?_;rintro e w4 ⟨rfl,i4,_⟩
 have I4:=hid i4
 have h4:=mk2_call hE'.out I4.out (fn_g (k:=2) (by omega)).1 8 2 0 (okI_n (by decide)) (by decide) (okI_n (by decide)) okI_0
 rw [v3_e] at h4
 have h4':=hid h4
 clear i4 h3' h4 I3
 go_wp2_with fail
 refine h4'.out.mono ?_;rintro e w7 ⟨rfl,i7,_⟩
 have I7:=hid i7
 have I7a:=I7.out.lit (.cells #[.int .i64 3] 3)
 have h7:=flatAll_any hE'.out p NoX Q3 (some ⟨w7.heap.size,0,none⟩) 1 1 [3] (w7.alloc (.cells #[.int .i64 3] 3)) I7a g_Q3 q_fr.1 (RdI.lit [3] 3 w7 (okSI (by decide))) (lit_free I7.out _) (by decide)
 unfold AllFPost at h7
 rw [v4_r.1,v4_r.2,v4_m,v4_o] at h7
 have h7':=hid h7
 clear i7 h4' h7 I4 I7a
 go_wp2_with fail
 refine h7'.out.mono ?_;rintro e w8 ⟨a1,c1,a2,c2,a3,c3,rfl,o8,m8,_,_,i8,_,g8⟩
 have I8:=hid (show St w p { Q4 with X:=NoX } w8 from i8)
 have G8:=hid (show TermG Q4 from g8.g)
 have I8a:=I8.out.lit (.cells #[.int .i64 0] 3)
 have h9:=flatAll_any hE'.out p NoX Q4 (some ⟨w8.heap.size,0,none⟩) 1 1 [0] (w8.alloc (.cells #[.int .i64 0] 3)) I8a G8.out q_fr.2 (RdI.lit [0] 3 w8 (okSI (by decide))) (lit_free I8.out _) (by decide)
 unfold AllFPost at h9
 rw [v5_e] at h9
 have h9':=hid h9
 have hbl:Below w8.heap.size w8 (w8.alloc (.cells #[.int .i64 0] 3)):=(Below.refl _ _).alloc (Nat.le_refl _) _
 have O8:=hid o8
 have M8:=hid m8
 have BL:=hid hbl
 have J8:=hid I8a
 clear i8 g8 h7' h9 I7 I8a o8 m8 hbl
 go_wp2_with fail
 refine h9'.out.mono ?_;rintro e w9 ⟨a4,c4,a5,c5,a6,c6,rfl,_,_,_,_,i9,s9,_⟩
 have I9:=hid (show St w p { Q4 with X:=NoX } w9 from i9)
 have hs9:TStep p w8 w9:=(TStep.of_below I8.out.t.plt BL.out).trans s9
 obtain ⟨g1,d1,hv1,_,hg1⟩:=O8.out.form (by decide)
 injection hv1 with hv1 hv2 hv3
 subst hv1 hv3
 have x1:=(World.cell?_of_block (w:=w8) (a:=⟨g1,0,none⟩) (I8.out.t.dat hs9 (O8.out.dat g1 rfl))).trans (O8.out.cells rfl 0 _ rfl)
 have M9:SlR repMd (fun _=>True) w9 a2 2 [⟨4,sf,[0]⟩,⟨5,sf,[4]⟩]:=(M8.out.keep (fun b hb hS=>(hs9.block b hb hS).1) hs9.size).mono fun _ _ _=>trivial
 obtain ⟨bm,om,cs0,rfl,_,hr0,hc0⟩:=M9.at (j:=0) rfl
 obtain ⟨bm',om',cs1,hbo,_,hr1,hc1⟩:=M9.at (j:=1) rfl
 injection hbo with hbo
 injection hbo with h1 h2 _
 subst h1 h2
 obtain ⟨aa,ca,rfl,_,_,_,hA⟩:=repMd_rd.1 hr0
 obtain ⟨ab,cb,rfl,_,_,_,hB⟩:=repMd_rd.1 hr1
 have y1:w9.cell? ⟨bm,om,none⟩=some (.int .i64 4):=hc0 0 _ rfl
 have y2:w9.cell? ⟨bm,om+1,none⟩=some (.string ⟨#[102]⟩):=hc0 1 _ rfl
 have y3:w9.cell? ⟨bm,om+2,none⟩=some (.slice aa 1 ca):=hc0 2 _ rfl
 have y4:w9.cell? ⟨bm,om+3+2,none⟩=some (.slice ab 1 cb):=hc1 2 _ rfl
 have KC:=hid (show ∀W,Below w9.heap.size w9 W→W.cell? ⟨bm,om,none⟩=some (.int .i64 4)∧W.cell? ⟨bm,om+1,none⟩=some (.string ⟨#[102]⟩)∧W.cell? ⟨bm,om+2,none⟩=some (.slice aa 1 ca)∧W.cell? ⟨bm,om+3+2,none⟩=some (.slice ab 1 cb)∧W.cell? ⟨g1,0,none⟩=some (.int .i64 6) from fun W hW=>⟨keep_cell hW y1,keep_cell hW y2,keep_cell hW y3,keep_cell hW y4,keep_cell hW x1⟩)
 have RA:=hid (show RdI w9 aa 1 [0] from hA.toI)
 have RB:=hid (show RdI w9 ab 1 [4] from hB.toI)
 have L9:Below w9.heap.size w9 (w9.alloc (.cells #[.int .i64 0] 3)).drew:=keep_alloc (keep_drew w9) _
 have R9:RdI (w9.alloc (.cells #[.int .i64 0] 3)).drew (some ⟨w9.heap.size,0,none⟩) 1 [0]:=by
  have h:=RdI.lit [(0:Int)] 3 w9 (okSI (by decide))
  exact⟨h.len,h.wf,h.cells⟩
 have hi1:=hid (ints_any aa (some ⟨w9.heap.size,0,none⟩) 1 1 ca 1 [(0:Int)] [(0:Int)] _ (RA.out.below L9 (Nat.le_refl _)) R9 (by decide))
 rw [show sameI [(0:Int)] [(0:Int)]=true from by decide] at hi1
 have B9:=hid L9
 have hK9:=KC.out w9 (Below.refl _ _)
 clear i9 s9 hs9 h9' hr0 hr1 hc0 hc1 hA hB M9 O8 M8 L9 hg1 R9 y1 y2 y3 y4 x1
 go_wp2
 refine wp_region_tt (S:=fun W=>W.cell? ⟨bm,om,none⟩=some (.int .i64 4)∧W.cell? ⟨bm,om+1,none⟩=some (.string ⟨#[102]⟩)∧W.cell? ⟨bm,om+2,none⟩=some (.slice aa 1 ca)∧W.cell? ⟨bm,om+3+2,none⟩=some (.slice ab 1 cb)∧W.cell? ⟨g1,0,none⟩=some (.int .i64 6)) 72 (by kernel_rfl) (by kernel_rfl) hK9 (fun hHeld=>?_)
 refine tk (i:=0) (h:=?_)
 (try simp only [Act.put,sA,sB,sC])
 refine tk (i:=1) (h:=?_)
 (try simp only [Act.put,sA,sB,sC])
 refine tk (i:=2) (h:=?_)
 (try simp only [Act.put,sA,sB,sC])
 refine tk (i:=3) (h:=?_)
 (try simp only [Act.put,sA,sB,sC])
 refine tk (i:=4) (h:=?_)
 (try simp only [Act.put,sA,sB,sC])
 refine tk (i:=5) (h:=?_)
 (try simp only [Act.put,sA,sB,sC])
 refine tk (i:=6) (h:=?_)
 (try simp only [Act.put,sA,sB,sC])
 refine tk (i:=7) (h:=?_)
 (try simp only [Act.put,sA,sB,sC])
 refine tk (i:=8) (h:=?_)
 (try simp only [Act.put,sA,sB,sC])
 refine tk (i:=9) (h:=?_)
 (try simp only [Act.put,sA,sB,sC])
 refine tk (i:=10) (h:=?_)
 (try simp only [Act.put,sA,sB,sC])
 refine tk (i:=11) (h:=?_)
 (try simp only [Act.put,sA,sB,sC])
 refine tk (i:=12) (h:=?_)
 (try simp only [Act.put,sA,sB,sC])
 refine tk (i:=13) (h:=?_)
 (try simp only [Act.put,sA,sB,sC])
 refine tk (i:=14) (h:=?_)
 (try simp only [Act.put,sA,sB,sC])
 refine tk (i:=15) (h:=?_)
 (try simp only [Act.put,sA,sB,sC])
 refine tk (i:=16) (h:=?_)
 (try simp only [Act.put,sA,sB,sC])
 refine tk (i:=17) (h:=?_)
 (try simp only [Act.put,sA,sB,sC])
 refine tk (i:=18) (h:=?_)
 (try simp only [Act.put,sA,sB,sC])
 refine tk (i:=19) (h:=?_)
 (try simp only [Act.put,sA,sB,sC])
 refine tk (i:=20) (h:=?_)
 (try simp only [Act.put,sA,sB,sC])
 refine tk (i:=21) (h:=?_)
 (try simp only [Act.put,sA,sB,sC])
 refine tk (i:=22) (h:=?_)
 (try simp only [Act.put,sA,sB,sC])
 refine tk (i:=23) (h:=?_)
 (try simp only [Act.put,sA,sB,sC])
 refine tk (i:=24) (h:=?_)
 (try simp only [Act.put,sA,sB,sC])
 refine tk (i:=25) (h:=?_)
 (try simp only [Act.put,sA,sB,sC])
 refine tk (i:=26) (h:=?_)
 (try simp only [Act.put,sA,sB,sC])
 refine tk (i:=27) (h:=?_)
 (try simp only [Act.put,sA,sB,sC])
 refine tk (i:=28) (h:=?_)
 (try simp only [Act.put,sA,sB,sC])
 refine tk (i:=29) (h:=?_)
 (try simp only [Act.put,sA,sB,sC])
 refine tk (i:=30) (h:=?_)
 (try simp only [Act.put,sA,sB,sC])
 refine tk (i:=31) (h:=?_)
 (try simp only [Act.put,sA,sB,sC])
 refine tk (i:=32) (h:=?_)
 (try simp only [Act.put,sA,sB,sC])
 refine tk (i:=33) (h:=?_)
 (try simp only [Act.put,sA,sB,sC])
 refine tk (i:=34) (h:=?_)
 (try simp only [Act.put,sA,sB,sC])
 refine tk (i:=35) (h:=?_)
 (try simp only [Act.put,sA,sB,sC])
 refine tk (i:=36) (h:=?_)
 (try simp only [Act.put,sA,sB,sC])
 refine tk (i:=37) (hy:=(by first | exact Or.inl ⟨by rfl,by(intro W hSw;have hq1:=hSw.2.1;go_simp <;> with_reducible rfl)⟩ | exact Or.inr ⟨by rfl,rfl⟩)) (h:=?_)
 (try simp only [Act.put,sA,sB,sC])
 refine tk (i:=38) (hy:=(by first | exact Or.inl ⟨by rfl,by(intro W hSw;have hq1:((⟨#[102]⟩:ByteArray).toList == (⟨#[102]⟩:ByteArray).toList)=true:=beq_self_eq_true _;go_simp <;> with_reducible rfl)⟩ | exact Or.inr ⟨by rfl,rfl⟩)) (h:=?_)
 (try simp only [Act.put,sA,sB,sC])
 refine tk (i:=39) (h:=?_)
 (try simp only [Act.put,sA,sB,sC])
 refine tk (i:=40) (h:=?_)
 (try simp only [Act.put,sA,sB,sC])
 refine tk (i:=41) (h:=?_)
 (try simp only [Act.put,sA,sB,sC])
 refine tk (i:=42) (h:=?_)
 (try simp only [Act.put,sA,sB,sC])
 refine tk (i:=43) (h:=?_)
 (try simp only [Act.put,sA,sB,sC])
 refine tk (i:=44) (hy:=(by first | exact Or.inl ⟨by rfl,by(intro W hSw;have hq1:=hSw.2.2.1;go_simp <;> with_reducible rfl)⟩ | exact Or.inr ⟨by rfl,rfl⟩)) (h:=?_)
 (try simp only [Act.put,sA,sB,sC])
 refine tk (i:=45) (h:=?_)
 (try simp only [Act.put,sA,sB,sC])
 refine tt_ready (rs:=[46]) (by decide +kernel) (allT_cons (by rfl) (fun K hK=>?_) allT_nil)
 go_simp
 refine hK.out _ _ (by(exact KC.out _ (keep_alloc (keep_drew w9) _))) (fun hHeld2=>?_)
 clear hK K
 (try simp only [Act.put,sA,sB,sC])
 refine tt_ready (rs:=[47]) (by decide +kernel) (allT_cons (by rfl) (fun K hK=>?_) allT_nil)
 go_simp
 go_at_call 30
 refine hi1.out.mono ?_;rintro e wA ⟨rfl,q,hwA⟩
 have BA:=hid (show Below w9.heap.size w9 wA from by rw [hwA];exact B9.out.drewN q)
 have KA:=KC.out wA BA.out
 have LA:Below wA.heap.size wA (wA.alloc (.cells #[.int .i64 4] 3)):=(Below.refl _ _).alloc (Nat.le_refl _) _
 have hi2:=hid (ints_any ab (some ⟨wA.heap.size,0,none⟩) 1 1 cb 1 [(4:Int)] [(4:Int)] _ ((RB.out.below BA.out (Nat.le_refl _)).below LA (Nat.le_refl _)) (RdI.lit [(4:Int)] 3 wA (okSI (by decide))) (by decide))
 rw [show sameI [(4:Int)] [(4:Int)]=true from by decide] at hi2
 have BB:=hid (BA.out.alloc BA.out.size (.cells #[.int .i64 4] 3))
 clear hwA hi1 LA
 dsimp only
 refine hK.out _ _ (by(exact KA)) (fun hHeld3=>?_)
 clear hK K
 (try simp only [Act.put,sA,sB,sC])
 refine tk (i:=48) (h:=?_)
 (try simp only [Act.put,sA,sB,sC])
 refine tk (i:=49) (h:=?_)
 (try simp only [Act.put,sA,sB,sC])
 refine tk (i:=50) (h:=?_)
 (try simp only [Act.put,sA,sB,sC])
 refine tk (i:=51) (h:=?_)
 (try simp only [Act.put,sA,sB,sC])
 refine tk (i:=52) (h:=?_)
 (try simp only [Act.put,sA,sB,sC])
 refine tk (i:=53) (hy:=(by first | exact Or.inl ⟨by rfl,by(intro W hSw;have hq1:=hSw.2.2.2.1;go_simp <;> with_reducible rfl)⟩ | exact Or.inr ⟨by rfl,rfl⟩)) (h:=?_)
 (try simp only [Act.put,sA,sB,sC])
 refine tk (i:=54) (h:=?_)
 (try simp only [Act.put,sA,sB,sC])
 refine tk (i:=55) (h:=?_)
 (try simp only [Act.put,sA,sB,sC])
 refine tk (i:=56) (h:=?_)
 (try simp only [Act.put,sA,sB,sC])
 refine tk (i:=57) (hy:=(by first | exact Or.inl ⟨by rfl,by(intro W hSw;have hq1:=hSw.1;go_simp <;> with_reducible rfl)⟩ | exact Or.inr ⟨by rfl,rfl⟩)) (h:=?_)
 (try simp only [Act.put,sA,sB,sC])
 refine tt_ready (rs:=[58]) (by decide +kernel) (allT_cons (by rfl) (fun K hK=>?_) allT_nil)
 go_simp
 refine hK.out _ _ (by(exact KC.out _ BB.out)) (fun hHeld4=>?_)
 clear hK K
 (try simp only [Act.put,sA,sB,sC])
 refine tt_ready (rs:=[59]) (by decide +kernel) (allT_cons (by rfl) (fun K hK=>?_) allT_nil)
 go_simp
 go_at_call 30
 refine hi2.out.mono ?_;rintro e wB ⟨rfl,q2,hwB⟩
 have BC:=hid (show Below w9.heap.size w9 wB from by rw [hwB];exact BB.out.drewN q2)
 have KB:=KC.out wB BC.out
 have hp1:=plain_any w.heap.size p { Q4 with X:=NoX } 6 wB (I9.out.all BC.out).t (G8.out.ok.X _) (okI_n (by decide))
 rw [plainT_X,v6_p.1] at hp1
 have hp1':=hid hp1
 clear hwB hi2 hp1
 dsimp only
 refine hK.out _ _ (by(exact KB)) (fun hHeld5=>?_)
 clear hK K
 (try simp only [Act.put,sA,sB,sC])
 refine tk (i:=60) (h:=?_)
 (try simp only [Act.put,sA,sB,sC])
 refine tk (i:=61) (h:=?_)
 (try simp only [Act.put,sA,sB,sC])
 refine tk (i:=62) (h:=?_)
 (try simp only [Act.put,sA,sB,sC])
 refine tk (i:=63) (h:=?_)
 (try simp only [Act.put,sA,sB,sC])
 refine tk (i:=64) (h:=?_)
 (try simp only [Act.put,sA,sB,sC])
 refine tk (i:=65) (hy:=(by first | exact Or.inl ⟨by rfl,by(intro W hSw;have hq1:=hSw.2.2.2.2;go_simp <;> with_reducible rfl)⟩ | exact Or.inr ⟨by rfl,rfl⟩)) (h:=?_)
 (try simp only [Act.put,sA,sB,sC])
 refine tt_ready (rs:=[66]) (by decide +kernel) (allT_cons (by rfl) (fun K hK=>?_) allT_nil)
 go_simp
 go_at_call 27
 refine hp1'.out.mono ?_;rintro e wC ⟨rfl,bC⟩
 have BD:=hid (BC.out.trans (bC.mono BC.out.size))
 have KD:=KC.out wC BD.out
 have hp2:=plain_any w.heap.size p { Q4 with X:=NoX } 3 wC (I9.out.all BD.out).t (G8.out.ok.X _) (okI_n (by decide))
 rw [plainT_X,v6_p.2] at hp2
 have hp2':=hid hp2
 clear bC hp1' hp2
 dsimp only
 refine hK.out _ _ (by(exact KD)) (fun hHeld6=>?_)
 clear hK K
 (try simp only [Act.put,sA,sB,sC])
 refine tk (i:=67) (h:=?_)
 (try simp only [Act.put,sA,sB,sC])
 refine tk (i:=68) (h:=?_)
 (try simp only [Act.put,sA,sB,sC])
 refine tk (i:=69) (h:=?_)
 (try simp only [Act.put,sA,sB,sC])
 refine tk (i:=70) (h:=?_)
 (try simp only [Act.put,sA,sB,sC])
 refine tt_ready (rs:=[71]) (by decide +kernel) (allT_cons (by rfl) (fun K hK=>?_) allT_nil)
 go_simp
 go_at_call 27
 refine hp2'.out.mono ?_;rintro e wD ⟨rfl,bD⟩
 have BE:=hid (BD.out.trans (bD.mono BD.out.size))
 have KE:=KC.out wD BE.out
 clear bD hp2'
 dsimp only
 refine hK.out _ _ (by(exact KE)) (fun hHeld7=>?_)
 clear hK K
 (try simp only [Act.put,sA,sB,sC])
 refine tt_tail (by decide +kernel) ?_
 simp only [List.drop_succ_cons,List.drop_zero]
 go_wp2
 go_ret
 exact⟨rfl,I9.out.b.trans (BE.out.mono I9.out.b.size)⟩
theorem nameQ_decl:∀f∈(T7 10).funs,NameQ f.name:=by
 intro f hf
 have:f∈declL:=hf
 simp only [declL,List.mem_cons,List.not_mem_nil,or_false] at this
 rcases this with rfl | rfl | rfl | rfl | rfl | rfl | rfl | rfl | rfl | rfl <;> exact⟨by decide +kernel,by decide +kernel⟩
theorem decl_fr:∀f∈(T7 10).funs,∀k:Int,f.name≠freshName k:=fun f hf k e=>by
 have h1:=(by decide +kernel:∀f∈(T7 10).funs,f.name.data.toList.head? ≠ some 124) f hf
 rw [e] at h1
 exact h1 (by unfold freshName;simp)
theorem MdI.start:MdI (T7 10) (emptyT (T7 10)) 0:=
 ⟨⟨TermOk.empty 10,⟨fun k i h=>(by cases h),fun j n h=>(by simp [emptyT] at h),fun n h=>(by simp [emptyT] at h)⟩,⟨fun k x h=>(by simp [emptyT] at h),fun x h=>(by simp [emptyT] at h),fun x h=>(by simp [emptyT] at h)⟩,nameQ_decl⟩,⟨TermOk.empty 10,fun x h=>(by simp [emptyT] at h)⟩,Nat.le_refl _,rfl,rfl,⟨fun x h=>(by simp [emptyT] at h),fun x h=>(by simp [emptyT] at h),by decide +kernel,fun x h=>(by simp [emptyT] at h)⟩,⟨fun x h=>(by simp [emptyT] at h),decl_fr⟩⟩
end Go.Proofs.YtgoojkiccdjplaaGreatDoor
