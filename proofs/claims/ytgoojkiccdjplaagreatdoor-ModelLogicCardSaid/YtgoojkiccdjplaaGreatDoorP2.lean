/-
  Parts of this claim's texts, one behind the other: GE GF. No condition.
-/
import Derived.Test.YtgoojkiccdjplaaGreatDoorP1
set_option linter.unusedVariables false
set_option linter.unusedSimpArgs false
set_option maxRecDepth 100000
set_option maxHeartbeats 16000000
namespace Go.Proofs.YtgoojkiccdjplaaGreatDoor
open Go.RowKit Go.Sort Go.Lib
def nQ:NodeD:=⟨12,sq,noRat,[],0⟩
def L2:TermD:=addN P1 nQ
def L3:TermD:=addN L2 nX
def L4:TermD:=addN L3 nY
def opN (op a b:Int):NodeD:=⟨op,⟨#[]⟩,noRat,[a,b],0⟩
def opB:Nat→Int
 | 0=>4
 | 1=>5
 | 2=>6
 | 3=>7
 | 4=>8
 | _=>9
def opC:Nat→Int
 | 0=>17
 | 1=>18
 | 2=>19
 | 3=>20
 | 4=>8
 | _=>9
def tabB:Nat→TermD
 | 0=>L4
 | j+1=>addN (tabB j) (opN (opB j) 0 1)
def tabC:Nat→TermD
 | 0=>tabB 6
 | j+1=>addN (tabC j) (opN (opC j) 2 3)
def L17:TermD:=addN (tabC 6) ⟨3,⟨#[]⟩,noRat,[0],0⟩
def L18:TermD:=addN L17 ⟨10,⟨#[]⟩,noRat,[16,2,3],1⟩
theorem sort_q1:sortedD P1 12 sq []=(0,true):=by
 show callD P1 sq []=_
 rw [callD_data]
 decide +kernel
theorem sort_xL:sortedD L2 12 sx []=(1,true):=by
 show callD L2 sx []=_
 rw [callD_data]
 decide +kernel
theorem sort_yL:sortedD L3 12 sy []=(1,true):=by
 show callD L3 sy []=_
 rw [callD_data]
 decide +kernel
theorem mk_q:makeD P1 12 sq noRat []=((1,0),L2):=(make_put (by decide +kernel) (by decide +kernel) rfl sort_q1).trans (put_addN (by decide +kernel) (by decide +kernel))
theorem mk_xL:makeD L2 12 sx noRat []=((2,0),L3):=(make_put (by decide +kernel) (by decide +kernel) rfl sort_xL).trans (put_addN (by decide +kernel) (by decide +kernel))
theorem mk_yL:makeD L3 12 sy noRat []=((3,0),L4):=(make_put (by decide +kernel) (by decide +kernel) rfl sort_yL).trans (put_addN (by decide +kernel) (by decide +kernel))
theorem mk_step {T:TermD} {op a b:Int} (h1:badHead op [a,b]=false) (h2:badVal op ⟨#[]⟩ noRat=false) (h3:[a,b].any (fun i=>!hasT T i)=false) (h4:sortedD T op ⟨#[]⟩ [a,b]=(0,true)) (h5:T.ids (keyB (opN op a b))=none) (h6:T.nodes.length<16384):mk2 T op a b=(((T.nodes.length:Int),0),addN T (opN op a b)):=
 (make_put h1 h2 h3 h4).trans (put_addN h5 h6)
theorem mk_B (j:Nat) (h:j<6):mk2 (tabB j) (opB j) 0 1=((((4+j:Nat):Int),0),tabB (j+1)):=by
 match j,h with
 | 0,_=>exact mk_step (by decide +kernel) (by decide +kernel) (by decide +kernel) (by decide +kernel) (by decide +kernel) (by decide +kernel)
 | 1,_=>exact mk_step (by decide +kernel) (by decide +kernel) (by decide +kernel) (by decide +kernel) (by decide +kernel) (by decide +kernel)
 | 2,_=>exact mk_step (by decide +kernel) (by decide +kernel) (by decide +kernel) (by decide +kernel) (by decide +kernel) (by decide +kernel)
 | 3,_=>exact mk_step (by decide +kernel) (by decide +kernel) (by decide +kernel) (by decide +kernel) (by decide +kernel) (by decide +kernel)
 | 4,_=>exact mk_step (by decide +kernel) (by decide +kernel) (by decide +kernel) (by decide +kernel) (by decide +kernel) (by decide +kernel)
 | 5,_=>exact mk_step (by decide +kernel) (by decide +kernel) (by decide +kernel) (by decide +kernel) (by decide +kernel) (by decide +kernel)
theorem mk_C (j:Nat) (h:j<6):mk2 (tabC j) (opC j) 2 3=((((10+j:Nat):Int),0),tabC (j+1)):=by
 match j,h with
 | 0,_=>exact mk_step (by decide +kernel) (by decide +kernel) (by decide +kernel) (by decide +kernel) (by decide +kernel) (by decide +kernel)
 | 1,_=>exact mk_step (by decide +kernel) (by decide +kernel) (by decide +kernel) (by decide +kernel) (by decide +kernel) (by decide +kernel)
 | 2,_=>exact mk_step (by decide +kernel) (by decide +kernel) (by decide +kernel) (by decide +kernel) (by decide +kernel) (by decide +kernel)
 | 3,_=>exact mk_step (by decide +kernel) (by decide +kernel) (by decide +kernel) (by decide +kernel) (by decide +kernel) (by decide +kernel)
 | 4,_=>exact mk_step (by decide +kernel) (by decide +kernel) (by decide +kernel) (by decide +kernel) (by decide +kernel) (by decide +kernel)
 | 5,_=>exact mk_step (by decide +kernel) (by decide +kernel) (by decide +kernel) (by decide +kernel) (by decide +kernel) (by decide +kernel)
theorem mk_not:makeD (tabC 6) 3 ⟨#[]⟩ noRat [0]=((16,0),L17):=(make_put (s:=0) (by decide +kernel) (by decide +kernel) (by decide +kernel) (by decide +kernel)).trans (put_addN (by decide +kernel) (by decide +kernel))
theorem mk_iteL:makeD L17 10 ⟨#[]⟩ noRat [16,2,3]=((17,0),L18):=(make_put (s:=1) (by decide +kernel) (by decide +kernel) (by decide +kernel) (by decide +kernel)).trans (put_addN (by decide +kernel) (by decide +kernel))
theorem eval_two {m:ModD} {T:TermD} {i a b:Int} {na nb ni:NodeD} {va vb r:ValD} (hi:hasT T i=true) (hw:(walkT T [i]).2 = [a,b,i]) (h1:nodeAt T a=na) (h2:nodeAt T b=nb) (h3:nodeAt T i=ni) (ha:na.args = []) (hb:nb.args = []) (hn:ni.args = [a,b])
  (hab:a≠b) (ea:evalNode m na []=(va,0)) (eb:evalNode m nb []=(vb,0)) (ei:evalNode m ni [va,vb]=(r,0)):evalT m T i=(r,0):=by
 have e1:∀F,evalNode m (nodeAt T a) (argV F (nodeAt T a).args)=(va,0):=fun F=>by rw [h1,ha];exact ea
 have e2:∀F,evalNode m (nodeAt T b) (argV F (nodeAt T b).args)=(vb,0):=fun F=>by rw [h2,hb];exact eb
 have e3:evalNode m (nodeAt T i) (argV (updV (updV (fun _=>none) a va) b vb) (nodeAt T i).args)=(r,0):=by
  rw [h3,hn]
  have:argV (updV (updV (fun _=>none) a va) b vb) [a,b] = [va,vb]:=by
   unfold argV updV
   simp [hab]
  rw [this];exact ei
 unfold evalT
 rw [if_pos hi,hw,evalL_cons (e1 _),if_pos rfl,evalL_cons (e2 _),if_pos rfl,evalL_cons e3,if_pos rfl]
 unfold evalOut evalL updV
 simp
def mL (p q:Bool) (x y:Int):ModD:=[⟨sp,[],truthV p⟩,⟨sq,[],truthV q⟩,⟨sx,[],numV x 7⟩,⟨sy,[],numV y 7⟩]
section
variable {p q : Bool} {x y : Int}
theorem find_at {m:ModD} {nm:ByteArray} {l1:List TbD} {t:TbD} {l2:List TbD} (hm:m=l1++t :: l2) (h1:∀u∈l1,eqS u.name nm=false) (h2:eqS t.name nm=true):findT m nm=some t:=by
 subst hm
 unfold findT
 rw [List.find?_append,List.find?_eq_none.2 (fun u hu=>by rw [h1 u hu];decide),List.find?_cons_of_pos (by exact h2)]
 rfl
theorem eval_const {m:ModD} {nm:ByteArray} {s:Int} {t:TbD} (h:findT m nm=some t) (hr:t.rows = []):evalNode m ⟨12,nm,noRat,[],s⟩ []=(t.els,0):=by
 rw [evalApp (x:=⟨12,nm,noRat,[],s⟩) rfl]
 show(if (findT m nm).isSome=true then(applyT ((findT m nm).getD noTb) [],(0:Int)) else _)=_
 rw [h]
 show(applyT t [],(0:Int))=_
 unfold applyT
 rw [hr];rfl
theorem ev_p:evalNode (mL p q x y) nP []=(truthV p,0):=eval_const (t:=⟨sp,[],truthV p⟩) (find_at (l1:=[]) rfl (by simp) (e_self _)) rfl
theorem ev_q:evalNode (mL p q x y) nQ []=(truthV q,0):=eval_const (t:=⟨sq,[],truthV q⟩) (find_at (l1:=[⟨sp,[],truthV p⟩]) rfl (fun u hu=>by obtain rfl:=List.mem_singleton.1 hu;show eqS sp sq=false;rw [eqS_data];decide +kernel) (e_self _)) rfl
theorem ev_x:evalNode (mL p q x y) nX []=(numV x 7,0):=eval_const (t:=⟨sx,[],numV x 7⟩) (find_at (l1:=[⟨sp,[],truthV p⟩,⟨sq,[],truthV q⟩]) rfl (fun u hu=>by
 simp only [List.mem_cons,List.not_mem_nil,or_false] at hu
 rcases hu with rfl | rfl
 ·show eqS sp sx=false;rw [eqS_data];decide +kernel
 ·show eqS sq sx=false;rw [eqS_data];decide +kernel) (e_self _)) rfl
theorem ev_y:evalNode (mL p q x y) nY []=(numV y 7,0):=eval_const (t:=⟨sy,[],numV y 7⟩) (find_at (l1:=[⟨sp,[],truthV p⟩,⟨sq,[],truthV q⟩,⟨sx,[],numV x 7⟩]) rfl (fun u hu=>by
 simp only [List.mem_cons,List.not_mem_nil,or_false] at hu
 rcases hu with rfl | rfl | rfl
 ·show eqS sp sy=false;rw [eqS_data];decide +kernel
 ·show eqS sq sy=false;rw [eqS_data];decide +kernel
 ·show eqS sx sy=false;rw [eqS_data];decide +kernel) (e_self _)) rfl
def wantB (p q:Bool):Nat→Bool
 | 0=>p && q
 | 1=>p || q
 | 2=>!p || q
 | 3=>p != q
 | 4=>p == q
 | _=>p != q
def wantC (x y:Int):Nat→Bool
 | 0=>decide (x≤y)
 | 1=>decide (x<y)
 | 2=>decide (y≤x)
 | 3=>decide (y<x)
 | 4=>decide (x=y)
 | _=>!decide (x=y)
theorem op_B {m:ModD}:∀j:Nat,j<6→evalNode m (opN (opB j) 0 1) [truthV p,truthV q]=(truthV (wantB p q j),0):=by
 intro j h
 match j,h with
 | 0,_=>cases p <;> cases q <;> rfl
 | 1,_=>cases p <;> cases q <;> rfl
 | 2,_=>cases p <;> cases q <;> rfl
 | 3,_=>cases p <;> cases q <;> rfl
 | 4,_=>cases p <;> cases q <;> rfl
 | 5,_=>cases p <;> cases q <;> rfl
theorem cmp_num (hx:-1000≤x∧x≤1000) (hy:-1000≤y∧y≤1000):cmpR (numV x 7).num (numV y 7).num=cmpZI x y:=by
 show cmpR (ofR x 7) (ofR y 7)=_
 rw [ofR_fr (by decide),ofR_fr (by decide),cmpR_ofQ (sm_fr (by decide) ⟨by omega,by omega⟩ (by decide)) (sm_fr (by decide) ⟨by omega,by omega⟩ (by decide))]
 exact cmpQ_fr (by decide)
theorem op_C {m : ModD} (hx : -1000 ≤ x ∧ x ≤ 1000) (hy : -1000 ≤ y ∧ y ≤ 1000) : ∀ j : Nat, j < 6 → evalNode m (opN (opC j) 2 3) [numV x 7, numV y 7] = (truthV (wantC x y j), 0) := by
  have ho : ∀ op, orderV op [numV x 7, numV y 7] = (okCmp op (cmpZI x y) && true) := fun op => by
    show (okCmp op (cmpR (numV x 7).num (numV y 7).num) && true) = _
    rw [cmp_num hx hy]
  have hE : ∀ b, equalV b [numV x 7, numV y 7] = (decide (x = y) == b) := fun b => by
    show ((sameV (numV x 7) (numV y 7) == b && true) && (true && true)) = _
    rw [sameV_num (by decide)]
    simp
  have hk : ∀ op, (okCmp op (cmpZI x y) && true) = if x < y then decide (op = 17) || decide (op = 18) else if x = y then decide (op = 17) || decide (op = 19) else decide (op = 19) || decide (op = 20) := fun op => by
    unfold okCmp cmpZI
    rw [Bool.and_true]
    by_cases h1 : x < y
    · rw [if_pos h1, if_pos h1, if_pos (by decide)]
    · rw [if_neg h1, if_neg h1]
      by_cases h2 : x = y
      · rw [if_pos h2, if_pos h2]; rfl
      · rw [if_neg h2, if_neg h2]; rfl
  have hcc : ∀ op : Int, op = 17 ∨ op = 18 ∨ op = 19 ∨ op = 20 → evalNode m (opN op 2 3) [numV x 7, numV y 7] = (truthV (okCmp op (cmpZI x y) && true), 0) := fun op h => by
    rw [← ho op]
    rcases h with rfl | rfl | rfl | rfl <;> rfl
  intro j h
  match j, h with
  | 0, _ =>
    show evalNode m (opN 17 2 3) _ = (truthV (decide (x ≤ y)), 0)
    rw [hcc 17 (by decide), hk 17]
    congr 2
    by_cases h1 : x < y
    · rw [if_pos h1, decide_eq_true (p := x ≤ y) (by omega)]; rfl
    · rw [if_neg h1]
      by_cases h2 : x = y
      · rw [if_pos h2, decide_eq_true (p := x ≤ y) (by omega)]; rfl
      · rw [if_neg h2, decide_eq_false (p := x ≤ y) (by omega)]; rfl
  | 1, _ =>
    show evalNode m (opN 18 2 3) _ = (truthV (decide (x < y)), 0)
    rw [hcc 18 (by decide), hk 18]
    congr 2
    by_cases h1 : x < y
    · rw [if_pos h1, decide_eq_true h1]; rfl
    · rw [if_neg h1, decide_eq_false h1]
      by_cases h2 : x = y
      · rw [if_pos h2]; rfl
      · rw [if_neg h2]; rfl
  | 2, _ =>
    show evalNode m (opN 19 2 3) _ = (truthV (decide (y ≤ x)), 0)
    rw [hcc 19 (by decide), hk 19]
    congr 2
    by_cases h1 : x < y
    · rw [if_pos h1, decide_eq_false (p := y ≤ x) (by omega)]; rfl
    · rw [if_neg h1, decide_eq_true (p := y ≤ x) (by omega)]
      by_cases h2 : x = y
      · rw [if_pos h2]; rfl
      · rw [if_neg h2]; rfl
  | 3, _ =>
    show evalNode m (opN 20 2 3) _ = (truthV (decide (y < x)), 0)
    rw [hcc 20 (by decide), hk 20]
    congr 2
    by_cases h1 : x < y
    · rw [if_pos h1, decide_eq_false (p := y < x) (by omega)]; rfl
    · rw [if_neg h1]
      by_cases h2 : x = y
      · rw [if_pos h2, decide_eq_false (p := y < x) (by omega)]; rfl
      · rw [if_neg h2, decide_eq_true (p := y < x) (by omega)]; rfl
  | 4, _ =>
    show ((truthV (equalV true [numV x 7, numV y 7]), (0 : Int)) : ValD × Int) = (truthV (decide (x = y)), 0)
    rw [hE]; simp
  | 5, _ =>
    show ((truthV (equalV false [numV x 7, numV y 7]), (0 : Int)) : ValD × Int) = (truthV (!decide (x = y)), 0)
    rw [hE]; simp
theorem eval_B (j:Nat) (h:j<6):evalT (mL p q x y) (tabB (j+1)) (((4+j:Nat):Int))=(truthV (wantB p q j),0):=by
 have:=op_B (p:=p) (q:=q) (m:=mL p q x y) j h
 match j,h with
 | 0,_=>exact eval_two (a:=0) (b:=1) (by decide +kernel) (by decide +kernel) rfl rfl rfl rfl rfl rfl (by decide) ev_p ev_q this
 | 1,_=>exact eval_two (a:=0) (b:=1) (by decide +kernel) (by decide +kernel) rfl rfl rfl rfl rfl rfl (by decide) ev_p ev_q this
 | 2,_=>exact eval_two (a:=0) (b:=1) (by decide +kernel) (by decide +kernel) rfl rfl rfl rfl rfl rfl (by decide) ev_p ev_q this
 | 3,_=>exact eval_two (a:=0) (b:=1) (by decide +kernel) (by decide +kernel) rfl rfl rfl rfl rfl rfl (by decide) ev_p ev_q this
 | 4,_=>exact eval_two (a:=0) (b:=1) (by decide +kernel) (by decide +kernel) rfl rfl rfl rfl rfl rfl (by decide) ev_p ev_q this
 | 5,_=>exact eval_two (a:=0) (b:=1) (by decide +kernel) (by decide +kernel) rfl rfl rfl rfl rfl rfl (by decide) ev_p ev_q this
theorem eval_C (hx:-1000≤x∧x≤1000) (hy:-1000≤y∧y≤1000) (j:Nat) (h:j<6):evalT (mL p q x y) (tabC (j+1)) (((10+j:Nat):Int))=(truthV (wantC x y j),0):=by
 have:=op_C (m:=mL p q x y) hx hy j h
 match j,h with
 | 0,_=>exact eval_two (a:=2) (b:=3) (by decide +kernel) (by decide +kernel) rfl rfl rfl rfl rfl rfl (by decide) ev_x ev_y this
 | 1,_=>exact eval_two (a:=2) (b:=3) (by decide +kernel) (by decide +kernel) rfl rfl rfl rfl rfl rfl (by decide) ev_x ev_y this
 | 2,_=>exact eval_two (a:=2) (b:=3) (by decide +kernel) (by decide +kernel) rfl rfl rfl rfl rfl rfl (by decide) ev_x ev_y this
 | 3,_=>exact eval_two (a:=2) (b:=3) (by decide +kernel) (by decide +kernel) rfl rfl rfl rfl rfl rfl (by decide) ev_x ev_y this
 | 4,_=>exact eval_two (a:=2) (b:=3) (by decide +kernel) (by decide +kernel) rfl rfl rfl rfl rfl rfl (by decide) ev_x ev_y this
 | 5,_=>exact eval_two (a:=2) (b:=3) (by decide +kernel) (by decide +kernel) rfl rfl rfl rfl rfl rfl (by decide) ev_x ev_y this
theorem walk_18:(walkT L18 [17]).2 = [0,16,2,3,17]:=by decide +kernel
theorem eval_ite:evalT (mL p q x y) L18 17=(numV (if p then y else x) 7,0):=by
 have e0:∀F,evalNode (mL p q x y) (nodeAt L18 0) (argV F (nodeAt L18 0).args)=(truthV p,0):=fun _=>ev_p
 have e16:∀F,F 0=some (truthV p)→evalNode (mL p q x y) (nodeAt L18 16) (argV F (nodeAt L18 16).args)=(truthV (!p),0):=fun F h=>by
  show evalNode (mL p q x y) ⟨3,⟨#[]⟩,noRat,[0],0⟩ (argV F [0])=_
  unfold argV
  rw [List.map_cons,h]
  rfl
 have e2:∀F,evalNode (mL p q x y) (nodeAt L18 2) (argV F (nodeAt L18 2).args)=(numV x 7,0):=fun _=>ev_x
 have e3:∀F,evalNode (mL p q x y) (nodeAt L18 3) (argV F (nodeAt L18 3).args)=(numV y 7,0):=fun _=>ev_y
 have e17:∀F,F 16=some (truthV (!p))→F 2=some (numV x 7)→F 3=some (numV y 7)→evalNode (mL p q x y) (nodeAt L18 17) (argV F (nodeAt L18 17).args)=(numV (if p then y else x) 7,0):=fun F h1 h2 h3=>by
  show evalNode (mL p q x y) ⟨10,⟨#[]⟩,noRat,[16,2,3],1⟩ (argV F [16,2,3])=_
  unfold argV
  rw [List.map_cons,List.map_cons,List.map_cons,h1,h2,h3]
  cases p <;> rfl
 unfold evalT
 rw [if_pos (by decide +kernel),walk_18,evalL_cons (e0 _),if_pos rfl,evalL_cons (e16 _ rfl),if_pos rfl,evalL_cons (e2 _),if_pos rfl,evalL_cons (e3 _),if_pos rfl,evalL_cons (e17 _ rfl rfl rfl),if_pos rfl]
 rfl
theorem mL_small (hx:-1000≤x∧x≤1000) (hy:-1000≤y∧y≤1000):smallM (mL p q x y):=by
 refine⟨fun t ht=>?_,by show(4:Nat)≤_;decide⟩
 have h0:∀b,smallV (truthV b):=fun b=>⟨Nat.zero_le _,Nat.zero_le _⟩
 have h1:smallV (numV x 7):=small_numV (by decide) ⟨by omega,by omega⟩ (by decide)
 have h2:smallV (numV y 7):=small_numV (by decide) ⟨by omega,by omega⟩ (by decide)
 unfold mL at ht
 simp only [List.mem_cons,List.not_mem_nil,or_false] at ht
 rcases ht with rfl | rfl | rfl | rfl
 ·exact⟨fun r hr=>(by cases hr),h0 _,Nat.zero_le _⟩
 ·exact⟨fun r hr=>(by cases hr),h0 _,Nat.zero_le _⟩
 ·exact⟨fun r hr=>(by cases hr),h1,Nat.zero_le _⟩
 ·exact⟨fun r hr=>(by cases hr),h2,Nat.zero_le _⟩
end
structure LogJ (w:World) (p:Nat) (T:TermD) (v:Value) (S:Nat→Prop) (wM wr:World):Prop where
 st:St w p { T with X:=fun q=>rowB v q∨S q } wr
 keep:∀q,(rowB v q∨S q)→wr.heap[q]? = wM.heap[q]?
 size:wM.heap.size≤wr.heap.size
section
variable {w w' wM wr : World} {p : Nat} {S : Nat → Prop} {T T' : TermD} {v : Value}
theorem St.xlt {w0:World} (h:St w0 p T w) {k:Nat} (hk:T.X k):k<w.heap.size:=by obtain ⟨q,v1,v2,m,ha⟩:=h.t;exact(ha.xlt k hk).1
theorem LogJ.all (h:LogJ w p T v S wM wr) (hb:Below wr.heap.size wr w'):LogJ w p T v S wM w':=
 ⟨h.st.all hb,fun q hq=>(hb.block q (h.st.xlt hq)).trans (h.keep q hq),Nat.le_trans h.size hb.size⟩
theorem LogJ.step (h:LogJ w p T v S wM wr) (hs:TStep p wr w') (ht:St w p { T' with X:=fun q=>rowB v q∨S q } w'):LogJ w p T' v S wM w':=
 ⟨ht,fun q hq=>(h.st.own hq hs).trans (h.keep q hq),Nat.le_trans h.size hs.size⟩
theorem LogJ.blk (h:LogJ w p T v S wM wr) {q:Nat} {o:Obj} (hq:wM.heap[q]? = some o) (h1:S q):wr.heap[q]? = some o:=(h.keep q (.inr h1)).trans hq
theorem LogJ.mod {m:ModD} {ma:Option Addr} {mc:Nat} (h:LogJ w p T v S wM wr) (hM:ModS S wM m ma mc):ModS S wr m ma mc:=
 ⟨hM.tbs.keep (fun q _ hq=>h.keep q (.inr hq)) h.size,hM.cap⟩
theorem LogJ.cell {y:Addr} {u:Value} (h:LogJ w p T v S wM wr) (hc:wM.cell? y=some u) (hv:v.ownBlock=some y.block):wr.cell? y=some u:=by
 rw [World.cell?_of_block (w:=wM) (a:=y) (h.keep y.block (.inl hv))];exact hc
theorem LogJ.here (h:LogJ w p T v S wM wr) (hb:Below wr.heap.size wr w'):LogJ w p T v (fun k=>S k∨(wr.heap.size≤k∧k<w'.heap.size)) w' w':=
 ⟨h.st.more hb fun _ hk=>hk.elim (fun e=>.inl (.inl e)) fun e=>e.elim (fun e=>.inl (.inr e)) .inr,fun _ _=>rfl,Nat.le_refl _⟩
end
def tabQ:Nat→TermD
 | 0=>A0
 | 1=>P1
 | 2=>L2
 | 3=>L3
 | _=>L4
def nmQ4:Nat→ByteArray
 | 0=>sp
 | 1=>sq
 | 2=>sx
 | _=>sy
def idsQ4 (k:Nat):List Int:=(List.range k).map fun(j:Nat)=>(j:Int)
theorem mk_Q (k:Nat) (h:k<4):makeD (tabQ k) 12 (nmQ4 k) noRat []=(((k:Int),0),tabQ (k+1)):=by
 match k,h with
 | 0,_=>exact mk_p
 | 1,_=>exact mk_q
 | 2,_=>exact mk_xL
 | 3,_=>exact mk_yL
theorem g_Q : ∀ k : Nat, k ≤ 4 → TermG (tabQ k)
  | 0, _ => g_A0
  | k + 1, h => by
    have := ((g_Q k (by omega)).make 12 (nm := nmQ4 k) (val := noRat) [] (by decide) (by decide) (by
      match k, h with
      | 0, _ => decide
      | 1, _ => decide
      | 2, _ => decide
      | 3, _ => decide)).g
    rw [mk_Q k (by omega)] at this
    exact this
theorem g_tabB : ∀ j : Nat, j ≤ 6 → TermG (tabB j)
  | 0, _ => g_Q 4 (by decide)
  | j + 1, h => by
    have := mk2_grow (g_tabB j (by omega)) (opB j) 0 1
    rw [mk_B j (by omega)] at this
    exact this
theorem g_tabC : ∀ j : Nat, j ≤ 6 → TermG (tabC j)
  | 0, _ => g_tabB 6 (by decide)
  | j + 1, h => by
    have := mk2_grow (g_tabC j (by omega)) (opC j) 2 3
    rw [mk_C j (by omega)] at this
    exact this
theorem g_L17:TermG L17:=by
 have:=((g_tabC 6 (by decide)).make 3 (nm:=⟨#[]⟩) (val:=noRat) [0] (by decide) (by decide) (by decide)).g
 rw [mk_not] at this
 exact this
theorem g_L18:TermG L18:=by
 have:=(g_L17.make 10 (nm:=⟨#[]⟩) (val:=noRat) [16,2,3] (by decide) (by decide) (by decide)).g
 rw [mk_iteL] at this
 exact this
theorem ar_add {T:TermD} {n:NodeD} (h:ArT T) (hn:arOk n.op n.args.length):ArT (addN T n):=fun x hx=>by
 rcases List.mem_append.1 (show x∈T.nodes ++ [n] from hx) with hx | hx
 ·exact h x hx
 ·rw [List.mem_singleton.1 hx];exact hn
theorem ar_L4:ArT L4:=ar_add (ar_add (ar_add (ar_add (fun x hx=>by cases hx) ⟨by decide,by decide⟩) ⟨by decide,by decide⟩) ⟨by decide,by decide⟩) ⟨by decide,by decide⟩
theorem ar_tabB:∀j:Nat,ArT (tabB j)
 | 0=>ar_L4
 | j+1=>ar_add (ar_tabB j) ⟨.inr (.inr (.inr (.inr (.inr (.inr (by show 1≤2;decide)))))),fun h=>absurd h (by show opB j≠10;unfold opB;split <;> decide)⟩
theorem ar_tabC:∀j:Nat,ArT (tabC j)
 | 0=>ar_tabB 6
 | j+1=>ar_add (ar_tabC j) ⟨.inr (.inr (.inr (.inr (.inr (.inr (by show 1≤2;decide)))))),fun h=>absurd h (by show opC j≠10;unfold opC;split <;> decide)⟩
theorem ar_L18:ArT L18:=ar_add (ar_add (ar_tabC 6) ⟨by decide,by decide⟩) ⟨by decide,by decide⟩
theorem names4_at {w:World} {b k:Nat} (h:w.heap[b]? = some (.cells #[.string ⟨#[112]⟩,.string ⟨#[113]⟩,.string ⟨#[120]⟩,.string ⟨#[121]⟩] 9 (0,0))) (hk:k<4):w.cell? ⟨b,k,none⟩=some (.string (nmQ4 k)):=by
 have:=cell_p h k
 rw [this]
 match k,hk with
 | 0,_=>rfl
 | 1,_=>rfl
 | 2,_=>rfl
 | 3,_=>rfl
theorem idsQ4_succ (k:Nat):idsQ4 (k+1)=idsQ4 k ++ [(k:Int)]:=by unfold idsQ4;rw [List.range_succ,List.map_append];rfl
theorem mL_S {S:Nat→Prop} {w:World} {mt:Nat} {p q:Bool} {x y:Int} {ax bx ay by':Option Addr} {cx dx cy dy:Nat} (ht:w.heap[mt]? = some (.cells #[.string ⟨#[112]⟩,.slice none 0 0,.int .i64 0,.bool p,.bool false,.slice none 0 0,.slice none 0 0,.int .i64 0,.string ⟨#[113]⟩,.slice none 0 0,.int .i64 0,.bool q,.bool false,.slice none 0 0,.slice none 0 0,.int .i64 0,.string ⟨#[120]⟩,.slice none 0 0,.int .i64 (numV x 7).sort,.bool (numV x 7).bool,.bool (numV x 7).num.neg,.slice ax (numV x 7).num.num.length cx,.slice bx (numV x 7).num.den.length dx,.int .i64 (numV x 7).el,.string ⟨#[121]⟩,.slice none 0 0,.int .i64 (numV y 7).sort,.bool (numV y 7).bool,.bool (numV y 7).num.neg,.slice ay (numV y 7).num.num.length cy,.slice by' (numV y 7).num.den.length dy,.int .i64 (numV y 7).el] 67 (0,0))) (hS:S mt) (Vx:ValS S w (numV x 7) ax cx bx dx) (Vy:ValS S w (numV y 7) ay cy by' dy):ModS S w (mL p q x y) (some ⟨mt,0,none⟩) 4:=by
 have hb:∀b,ValS S w (truthV b) none 0 none 0:=fun b=>⟨(show okI 0 from⟨by decide,by decide⟩),(show okI 0 from⟨by decide,by decide⟩),.nil _ _ _ _,⟨Nat.le_refl _,Nat.zero_le _⟩,.nil _ _ _ _,⟨Nat.le_refl _,Nat.zero_le _⟩⟩
 refine⟨SlR.ofCss (css:=[tbC ⟨sp,[],truthV p⟩ none 0 none 0 none 0,tbC ⟨sq,[],truthV q⟩ none 0 none 0 none 0,tbC ⟨sx,[],numV x 7⟩ none 0 ax cx bx dx,tbC ⟨sy,[],numV y 7⟩ none 0 ay cy by' dy]) (xs:=mL p q x y) ht hS rfl fun j t hx=>?_,⟨by show(4:Nat)≤4;decide,by decide⟩⟩
 match j with
 | 0=>cases hx;exact⟨_,rfl,repTb_rd.2 ⟨_,_,_,_,_,_,rfl,⟨SlR.nil _ _ _ _,⟨Nat.le_refl _,Nat.zero_le _⟩,hb p⟩⟩⟩
 | 1=>cases hx;exact⟨_,rfl,repTb_rd.2 ⟨_,_,_,_,_,_,rfl,⟨SlR.nil _ _ _ _,⟨Nat.le_refl _,Nat.zero_le _⟩,hb q⟩⟩⟩
 | 2=>cases hx;exact⟨_,rfl,repTb_rd.2 ⟨_,_,_,_,_,_,rfl,⟨SlR.nil _ _ _ _,⟨Nat.le_refl _,Nat.zero_le _⟩,Vx⟩⟩⟩
 | 3=>cases hx;exact⟨_,rfl,repTb_rd.2 ⟨_,_,_,_,_,_,rfl,⟨SlR.nil _ _ _ _,⟨Nat.le_refl _,Nat.zero_le _⟩,Vy⟩⟩⟩
 | j+4=>simp [mL] at hx
theorem evalT_X (m : ModD) (T : TermD) (X : Nat → Prop) (i : Int) : evalT m { T with X := X } i = evalT m T i := by
  have hl : ∀ (l : List Int) F, evalL m { T with X := X } l F = evalL m T l F := by
    intro l
    induction l with
    | nil => intro F; rfl
    | cons a l ih =>
      intro F
      unfold evalL
      rw [ih]
      rfl
  unfold evalT
  rw [walkT_X, hl]
  rfl
theorem TermG.X {T:TermD} (h:TermG T) (X:Nat→Prop):TermG { T with X:=X }:=⟨⟨h.ok.sm.X X,h.ok.sn,h.ok.ord⟩,h.ng⟩
theorem ev_truth {b:Bool} {w w':World} {e:Ending} (h:EvP (truthV b,0) w e w'):∃a c a' c',e = .returned (.tuple #[.agg #[.int .i64 0,.bool b,.bool false,.slice a 0 c,.slice a' 0 c',.int .i64 0],.int .i64 0])∧Below w.heap.size w w':=by
 obtain ⟨a,c,b',d,rfl,_,h2⟩:=h
 exact⟨a,c,b',d,rfl,h2⟩
theorem opB_at {j:Nat} (h:j<6):(#[.int .i64 4,.int .i64 5,.int .i64 6,.int .i64 7,.int .i64 8,.int .i64 9]:Array Value)[j]? = some (.int .i64 (opB j)):=by
 match j,h with
 | 0,_=>rfl
 | 1,_=>rfl
 | 2,_=>rfl
 | 3,_=>rfl
 | 4,_=>rfl
 | 5,_=>rfl
theorem opC_at {j:Nat} (h:j<6):(#[.int .i64 17,.int .i64 18,.int .i64 19,.int .i64 20,.int .i64 8,.int .i64 9]:Array Value)[j]? = some (.int .i64 (opC j)):=by
 match j,h with
 | 0,_=>rfl
 | 1,_=>rfl
 | 2,_=>rfl
 | 3,_=>rfl
 | 4,_=>rfl
 | 5,_=>rfl
theorem want_at (f:Nat→Bool) {j:Nat} (h:j<6):(#[.bool (f 0),.bool (f 1),.bool (f 2),.bool (f 3),.bool (f 4),.bool (f 5)]:Array Value)[j]? = some (.bool (f j)):=by
 match j,h with
 | 0,_=>rfl
 | 1,_=>rfl
 | 2,_=>rfl
 | 3,_=>rfl
 | 4,_=>rfl
 | 5,_=>rfl
theorem mkn_call {w0 w:World} {p:Nat} {T:TermD} {X:Nat→Prop} (hE:EnvT w0) (h:St w0 p { T with X:=X } w) (hG:TermG T) (op a:Int) (ho:okI op) (h11:op≠11) (ha:okI a) :
  Calls Tryz.prog 33 #[.pointer (some ⟨p,0,none⟩),.int .i64 op,.string ⟨#[]⟩,.agg #[.bool false,.slice none 0 0,.slice none 0 0],.slice (some ⟨w.heap.size,0,none⟩) 1 1] (w.alloc (.cells #[.int .i64 a] 3)) fun e w'=>
   e = .returned (.tuple #[.int .i64 (makeD T op ⟨#[]⟩ noRat [a]).1.1,.int .i64 (makeD T op ⟨#[]⟩ noRat [a]).1.2])∧St w0 p { (makeD T op ⟨#[]⟩ noRat [a]).2 with X:=X } w'∧TStep p w w':=by
 have hl:=h.lit (.cells #[.int .i64 a] 3)
 have hm:=make_any w0.heap.size p { T with X:=X } op ⟨#[]⟩ noRat [a] none none (some ⟨w.heap.size,0,none⟩) 0 0 1 _ hl.t (hG.ok.sm.X X) (hl.env hE) (lit_args w op [a] ho (by intro x hx;rw [List.mem_singleton.1 hx];exact ha) (by show 1≤maxLen;decide) h11)
 unfold MakePost at hm
 rw [makeD_X] at hm
 refine hm.mono ?_
 rintro e w' ⟨rfl,t,s⟩
 exact⟨rfl,hl.step t s,(TStep.of_below h.t.plt ((Below.refl _ _).alloc (Nat.le_refl _) _)).trans s⟩
theorem okB (j:Nat):okI (opB j)∧opB j≠11:=by unfold opB;split <;> exact⟨⟨by decide,by decide⟩,by decide⟩
theorem okC (j:Nat):okI (opC j)∧opC j≠11:=by unfold opC;split <;> exact⟨⟨by decide,by decide⟩,by decide⟩
theorem Log_S {w wM:World} {p ob g a b cp j:Nat} {S:Nat→Prop} {cs:Array Value} {op ua ub:Value} (ho:wM.heap[ob]? = some (.cells cs 3 (0,0))) (h1:S ob) (hj:cs[j]? = some op) (hi:wM.cell? ⟨g,a,none⟩=some ua) (hk:wM.cell? ⟨g,b,none⟩=some ub) (T:TermD) (W:World) (J:LogJ w p T (.slice (some ⟨g,0,none⟩) 4 cp) S wM W) :
  W.cell? ⟨ob,j,none⟩=some op∧W.cell? ⟨g,a,none⟩=some ua∧W.cell? ⟨g,b,none⟩=some ub:=⟨(cell_p (J.blk ho h1) j).trans hj,J.cell hi rfl,J.cell hk rfl⟩
theorem modelLogic_walk (p q:Bool) (x y:Int) (w:World) (hE:EnvT w) :
  Calls Tryz.prog 6 #[.bool p,.bool q,.int .i64 x,.int .i64 y] w fun e w'=>e = .returned (.bool true)∧Below w.heap.size w w':=by
 have hE':=hid hE
 have haw:=hid (fun(W:World) (hb:Below w.heap.size w W)=>awake10_any W (hE.all hb))
 have haw1:=hid (awake10_any w hE)
 have htb:=hid (tables10_any w hE.env)
 clear hE
 by_cases hin:-1000≤x∧x≤1000 ∧ -1000≤y∧y≤1000
 case neg=>
  by_cases g1:x < -1000
  case pos=>
   go_enter Tryz.func6,Tryz.ntmps6
   go_wp2_with fail
   refine haw1.out.mono ?_;rintro e w1 ⟨rfl,b1⟩
   have B1:=hid b1
   clear b1
   go_wp2
   go_ret
   exact⟨rfl,B1.out⟩
  by_cases g2:1000<x
  case pos=>
   go_enter Tryz.func6,Tryz.ntmps6
   go_wp2_with fail
   refine haw1.out.mono ?_;rintro e w1 ⟨rfl,b1⟩
   have B1:=hid b1
   clear b1
   go_wp2
   go_ret
   exact⟨rfl,B1.out⟩
  by_cases g3:y < -1000
  case pos=>
   go_enter Tryz.func6,Tryz.ntmps6
   go_wp2_with fail
   refine haw1.out.mono ?_;rintro e w1 ⟨rfl,b1⟩
   have B1:=hid b1
   clear b1
   go_wp2
   go_ret
   exact⟨rfl,B1.out⟩
  have g4:1000<y:=by omega
  clear hin
  go_enter Tryz.func6,Tryz.ntmps6
  go_wp2_with fail
  refine haw1.out.mono ?_;rintro e w1 ⟨rfl,b1⟩
  have B1:=hid b1
  clear b1
  go_wp2
  go_ret
  exact⟨rfl,B1.out⟩
 case pos=>
 have g1:¬x < -1000:=by omega
 have g2:¬1000<x:=by omega
 have g3:¬y < -1000:=by omega
 have g4:¬1000<y:=by omega
 have hin':=hid hin
 clear hin haw1
 go_enter Tryz.func6,Tryz.ntmps6
 go_wp2_with fail
 refine htb.out.mono ?_;rintro e w1 ⟨pp,r,rfl,t1,b1⟩
 have bn:Below w1.heap.size w1 (w1.alloc (.cells #[.string ⟨#[112]⟩,.string ⟨#[113]⟩,.string ⟨#[120]⟩,.string ⟨#[121]⟩] 9)):=(Below.refl _ _).alloc (Nat.le_refl _) _
 have I1:=hid (show St w pp { tabQ 0 with X:=rowB (.slice none 0 0) } (w1.alloc (.cells #[.string ⟨#[112]⟩,.string ⟨#[113]⟩,.string ⟨#[120]⟩,.string ⟨#[121]⟩] 9)) from((show St w pp A0 w1 from⟨t1,b1⟩).all bn).excl (Below.refl _ _) (fun _ _ _=>rfl) (fun k e=>by cases e))
 have N1:=hid (heap_alloc_new w1 (.cells #[.string ⟨#[112]⟩,.string ⟨#[113]⟩,.string ⟨#[120]⟩,.string ⟨#[121]⟩] 9))
 clear t1 b1 htb bn
 obtain ⟨i0,hi0,hz0,hz1,hz2⟩:=info_parts info_int
 go_wp2
 generalize (w1.alloc (.cells #[.string ⟨#[112]⟩,.string ⟨#[113]⟩,.string ⟨#[120]⟩,.string ⟨#[121]⟩] 9))=w2 at *
 generalize w1.heap.size=ns at *
 go_loopw [8,11,13,14,15] (fun v8 v11 v13 _ _ wr=>∃k:Nat,k≤4∧v13 = .int .i64 k∧v8 = .bool false∧Hid (St w pp { tabQ k with X:=rowB v11 } wr)∧Hid (OwnC wr w.heap.size 3 1 v11 k ((idsQ4 k).map (Value.int .i64)))∧Hid (wr.heap[ns]? = some (.cells #[.string ⟨#[112]⟩,.string ⟨#[113]⟩,.string ⟨#[120]⟩,.string ⟨#[121]⟩] 9 (0,0)))) (fun _ _ v13 _ _ _=>4 - (intOf v13).toNat)
 case atStart=>exact⟨0,Nat.zero_le _,rfl,rfl,I1.out,OwnC.nil _ _ _ _,N1.out⟩
 case round=>
  obtain ⟨k,hk,rfl,rfl,hS,hO,hN⟩:=hrel
  clear I1 N1
  by_cases hlt:k<4
  case pos=>
   have hki:(k:Int)<4:=by omega
   have hnm:=names4_at hN.out hlt
   have hmk:=app_call (X:=rowB u11) hE'.out hS.out (g_Q k hk) (nmQ4 k) (by match k,hlt with | 0,_=>decide | 1,_=>decide | 2,_=>decide | 3,_=>decide)
   rw [mk_Q k hlt] at hmk
   have hmk':=hid hmk
   clear hmk
   generalize nmQ4 k=nm at *
   go_wp2_with fail
   refine hmk'.out.mono ?_;rintro e w3 ⟨rfl,i3,s3⟩
   have O3:=hid (hO.out.tstep hS.out (fun _ h=>h) s3)
   have N3:=hid ((hS.out.t.stay s3 ⟨_,_,hN.out⟩ (by decide) (by decide) (by decide)).trans hN.out)
   have I3:=hid i3
   clear i3 s3 hmk' hS hO hN hnm
   go_wp2_with (at_builtin;refine wpList_append_C rfl (.tmp 74) (.tmp 76) rfl Tryz.underlying23 hi0 hz0 hz1 hz2 rfl (by decide) rfl rfl (O3.out.alloc _) (Src.one (b:=w3.heap.size) (news:=[.int .i64 k]) rfl ?c1) ?c2 ?c3 ?c4 ?c5 ?_)
   case c1=>intro j u hu;first | (rw [World.cell?_alloc_new];simpa using hu) | exact hu
   case c2=>intro u hu;simp at hu;subst hu;rfl
   case c3=>unfold maxLen;omega
   case c4=>omega
   case c5=>have:=I3.out.b.size;simp;omega
   intro v' w4 ho hg hl2
   have hg':=grown_alloc hg
   have hb4:Below w.heap.size w3 w4:=(Below.refl _ _).grown hg' I3.out.b.size (fun k hk=>(O3.out.lt k hk).1)
   have I4:=hid (I3.out.excl (X':=rowB v') hb4 (fun k hk hn=>hg'.block k hk (fun e=>hn e.symm)) (fun k e=>⟨by
    rcases hl2 with hl2 | hl2
    ·left;show _=_;rw [←hl2];exact e
    ·right;have:=hl2 k e;first | omega | (simp at this;omega),(ho.lt k e).2⟩))
   have N4:=hid ((hg'.block ns (Array.getElem?_eq_some_iff.1 N3.out).1 fun e=>by
    obtain ⟨cs,f,hc⟩:=O3.out.ty ns e.symm
    rw [N3.out] at hc;injection hc with hc;injection hc with h1 h2;exact absurd h2 (by decide)).trans N3.out)
   have O4:=hid (show OwnC w4 w.heap.size 3 1 v' (k+1) ((idsQ4 (k+1)).map (Value.int .i64)) from by rw [idsQ4_succ,List.map_append];exact ho)
   clear ho hg hl2 hg' hb4 I3 O3 N3
   go_wp2
   go_roundw
   case rel=>exact⟨k+1,by omega,by go_num,rfl,I4.out,O4.out,N4.out⟩
   case measure=>first | (simp [intOf];done) | (simp [intOf];omega)
  case neg=>
   obtain rfl:k=4:=by omega
   clear hlt hk hN
   have hx0:=hid (number10_any x 7 ⟨by omega,by omega⟩ (by decide) ⟨by decide,by decide⟩ wr)
   go_wp2_with fail
   refine hx0.out.mono ?_;rintro e wa ⟨ax,cx,bx,dx,rfl,Vx,ba⟩
   have hy0:=hid (number10_any y 7 ⟨by omega,by omega⟩ (by decide) ⟨by decide,by decide⟩ wa)
   have Vx1:=hid Vx
   have Ba:=hid ba
   clear hx0 Vx ba
   go_wp2_with fail
   refine hy0.out.mono ?_;rintro e wb ⟨ay,cy,by',dy,rfl,Vy,bb⟩
   have Bb:=hid (Ba.out.trans (bb.mono Ba.out.size))
   have Vx2:=hid (Vx1.out.mono (S':=fun q=>wr.heap.size≤q) fun q _ hq=>hq.2)
   have Vx3:=hid (Vx2.out.below bb (Nat.le_refl _))
   have Vy3:=hid (Vy.mono (S':=fun q=>wr.heap.size≤q) fun q _ hq=>Nat.le_trans Ba.out.size hq.2)
   clear hy0 Vy bb Vx1 Vx2 Ba
   have b3:=hid (below3 wb (.cells #[.string ⟨#[112]⟩,.slice none 0 0,.int .i64 0,.bool p,.bool false,.slice none 0 0,.slice none 0 0,.int .i64 0,.string ⟨#[113]⟩,.slice none 0 0,.int .i64 0,.bool q,.bool false,.slice none 0 0,.slice none 0 0,.int .i64 0,.string ⟨#[120]⟩,.slice none 0 0,.int .i64 (numV x 7).sort,.bool (numV x 7).bool,.bool (numV x 7).num.neg,.slice ax (numV x 7).num.num.length cx,.slice bx (numV x 7).num.den.length dx,.int .i64 (numV x 7).el,.string ⟨#[121]⟩,.slice none 0 0,.int .i64 (numV y 7).sort,.bool (numV y 7).bool,.bool (numV y 7).num.neg,.slice ay (numV y 7).num.num.length cy,.slice by' (numV y 7).num.den.length dy,.int .i64 (numV y 7).el] 67) (.cells #[.slice (some ⟨wb.heap.size,0,none⟩) 4 4] 71) (.cells #[.int .i64 4,.int .i64 5,.int .i64 6,.int .i64 7,.int .i64 8,.int .i64 9] 3))
   have hta:=hid (heap3a wb (.cells #[.string ⟨#[112]⟩,.slice none 0 0,.int .i64 0,.bool p,.bool false,.slice none 0 0,.slice none 0 0,.int .i64 0,.string ⟨#[113]⟩,.slice none 0 0,.int .i64 0,.bool q,.bool false,.slice none 0 0,.slice none 0 0,.int .i64 0,.string ⟨#[120]⟩,.slice none 0 0,.int .i64 (numV x 7).sort,.bool (numV x 7).bool,.bool (numV x 7).num.neg,.slice ax (numV x 7).num.num.length cx,.slice bx (numV x 7).num.den.length dx,.int .i64 (numV x 7).el,.string ⟨#[121]⟩,.slice none 0 0,.int .i64 (numV y 7).sort,.bool (numV y 7).bool,.bool (numV y 7).num.neg,.slice ay (numV y 7).num.num.length cy,.slice by' (numV y 7).num.den.length dy,.int .i64 (numV y 7).el] 67) (.cells #[.slice (some ⟨wb.heap.size,0,none⟩) 4 4] 71) (.cells #[.int .i64 4,.int .i64 5,.int .i64 6,.int .i64 7,.int .i64 8,.int .i64 9] 3))
   have htm:=hid (heap3b wb (.cells #[.string ⟨#[112]⟩,.slice none 0 0,.int .i64 0,.bool p,.bool false,.slice none 0 0,.slice none 0 0,.int .i64 0,.string ⟨#[113]⟩,.slice none 0 0,.int .i64 0,.bool q,.bool false,.slice none 0 0,.slice none 0 0,.int .i64 0,.string ⟨#[120]⟩,.slice none 0 0,.int .i64 (numV x 7).sort,.bool (numV x 7).bool,.bool (numV x 7).num.neg,.slice ax (numV x 7).num.num.length cx,.slice bx (numV x 7).num.den.length dx,.int .i64 (numV x 7).el,.string ⟨#[121]⟩,.slice none 0 0,.int .i64 (numV y 7).sort,.bool (numV y 7).bool,.bool (numV y 7).num.neg,.slice ay (numV y 7).num.num.length cy,.slice by' (numV y 7).num.den.length dy,.int .i64 (numV y 7).el] 67) (.cells #[.slice (some ⟨wb.heap.size,0,none⟩) 4 4] 71) (.cells #[.int .i64 4,.int .i64 5,.int .i64 6,.int .i64 7,.int .i64 8,.int .i64 9] 3))
   have hto:=hid (heap3c wb (.cells #[.string ⟨#[112]⟩,.slice none 0 0,.int .i64 0,.bool p,.bool false,.slice none 0 0,.slice none 0 0,.int .i64 0,.string ⟨#[113]⟩,.slice none 0 0,.int .i64 0,.bool q,.bool false,.slice none 0 0,.slice none 0 0,.int .i64 0,.string ⟨#[120]⟩,.slice none 0 0,.int .i64 (numV x 7).sort,.bool (numV x 7).bool,.bool (numV x 7).num.neg,.slice ax (numV x 7).num.num.length cx,.slice bx (numV x 7).num.den.length dx,.int .i64 (numV x 7).el,.string ⟨#[121]⟩,.slice none 0 0,.int .i64 (numV y 7).sort,.bool (numV y 7).bool,.bool (numV y 7).num.neg,.slice ay (numV y 7).num.num.length cy,.slice by' (numV y 7).num.den.length dy,.int .i64 (numV y 7).el] 67) (.cells #[.slice (some ⟨wb.heap.size,0,none⟩) 4 4] 71) (.cells #[.int .i64 4,.int .i64 5,.int .i64 6,.int .i64 7,.int .i64 8,.int .i64 9] 3))
   have hs3:=hid (show(((wb.alloc (.cells #[.string ⟨#[112]⟩,.slice none 0 0,.int .i64 0,.bool p,.bool false,.slice none 0 0,.slice none 0 0,.int .i64 0,.string ⟨#[113]⟩,.slice none 0 0,.int .i64 0,.bool q,.bool false,.slice none 0 0,.slice none 0 0,.int .i64 0,.string ⟨#[120]⟩,.slice none 0 0,.int .i64 (numV x 7).sort,.bool (numV x 7).bool,.bool (numV x 7).num.neg,.slice ax (numV x 7).num.num.length cx,.slice bx (numV x 7).num.den.length dx,.int .i64 (numV x 7).el,.string ⟨#[121]⟩,.slice none 0 0,.int .i64 (numV y 7).sort,.bool (numV y 7).bool,.bool (numV y 7).num.neg,.slice ay (numV y 7).num.num.length cy,.slice by' (numV y 7).num.den.length dy,.int .i64 (numV y 7).el] 67)).alloc (.cells #[.slice (some ⟨wb.heap.size,0,none⟩) 4 4] 71)).alloc (.cells #[.int .i64 4,.int .i64 5,.int .i64 6,.int .i64 7,.int .i64 8,.int .i64 9] 3)).heap.size=wb.heap.size+3 from by simp)
   go_upto_region 17 with fail
   generalize (((wb.alloc (.cells #[.string ⟨#[112]⟩,.slice none 0 0,.int .i64 0,.bool p,.bool false,.slice none 0 0,.slice none 0 0,.int .i64 0,.string ⟨#[113]⟩,.slice none 0 0,.int .i64 0,.bool q,.bool false,.slice none 0 0,.slice none 0 0,.int .i64 0,.string ⟨#[120]⟩,.slice none 0 0,.int .i64 (numV x 7).sort,.bool (numV x 7).bool,.bool (numV x 7).num.neg,.slice ax (numV x 7).num.num.length cx,.slice bx (numV x 7).num.den.length dx,.int .i64 (numV x 7).el,.string ⟨#[121]⟩,.slice none 0 0,.int .i64 (numV y 7).sort,.bool (numV y 7).bool,.bool (numV y 7).num.neg,.slice ay (numV y 7).num.num.length cy,.slice by' (numV y 7).num.den.length dy,.int .i64 (numV y 7).el] 67)).alloc (.cells #[.slice (some ⟨wb.heap.size,0,none⟩) 4 4] 71)).alloc (.cells #[.int .i64 4,.int .i64 5,.int .i64 6,.int .i64 7,.int .i64 8,.int .i64 9] 3))=wD at *
   go_cut [18] from 93 to 115 (fun v18 wc=>v18 = .slice (some ⟨wD.heap.size,0,none⟩) 6 6∧Hid (wc=wD.alloc (.cells #[.bool (wantB p q 0),.bool (wantB p q 1),.bool (wantB p q 2),.bool (wantB p q 3),.bool (wantB p q 4),.bool (wantB p q 5)] 4)))
   case first=>
    cases p <;> cases q <;> (
     go_wp2
     go_meet
     case rel=>exact⟨rfl,rfl⟩)
   case rest=>
    obtain ⟨rfl,hwc⟩:=hcut
    obtain ⟨g,cp,rfl,hg1,hg2⟩:=hO.out.form (by decide)
    have bD:=hid (Bb.out.trans (b3.out.mono Bb.out.size))
    have bW:=hid (show Below wD.heap.size wD wc from by rw [hwc.out];exact(Below.refl _ _).alloc (Nat.le_refl _) _)
    have bM:=hid (bD.out.trans (bW.out.mono bD.out.size))
    have Hw:=hid (show wc.heap[wD.heap.size]? = some (.cells #[.bool (wantB p q 0),.bool (wantB p q 1),.bool (wantB p q 2),.bool (wantB p q 3),.bool (wantB p q 4),.bool (wantB p q 5)] 4 (0,0)) from by rw [hwc.out];exact heap_alloc_new wD _)
    have hsz:=hid (show wc.heap.size=wb.heap.size+4 from by rw [hwc.out];simp [hs3.out])
    have hwr:=hid Bb.out.size
    have hmt:=hid (show wr.heap.size≤wb.heap.size∧wb.heap.size<wc.heap.size from by have:=hsz.out;have:=hwr.out;omega)
    have hmb:=hid (show wr.heap.size≤wb.heap.size+1∧wb.heap.size+1<wc.heap.size from by have:=hsz.out;have:=hwr.out;omega)
    have hob:=hid (show wr.heap.size≤wb.heap.size+1+1∧wb.heap.size+1+1<wc.heap.size from by have:=hsz.out;have:=hwr.out;omega)
    have hwt:=hid (show wr.heap.size≤wD.heap.size∧wD.heap.size<wc.heap.size from by have:=hsz.out;have:=hwr.out;have:=hs3.out;omega)
    have hd0:=hid (keep_cell bM.out (hO.out.cells rfl 0 _ rfl))
    have hd1:=hid (keep_cell bM.out (hO.out.cells rfl 1 _ rfl))
    have hd2:=hid (keep_cell bM.out (hO.out.cells rfl 2 _ rfl))
    have hd3:=hid (keep_cell bM.out (hO.out.cells rfl 3 _ rfl))
    have J0:=hid (show LogJ w pp (tabB 0) (.slice (some ⟨g,0,none⟩) 4 cp) (fun k=>wr.heap.size≤k∧k<wc.heap.size) wc wc from⟨St.more (T:=tabQ 4) hS.out bM.out (fun k hk=>hk),fun _ _=>rfl,Nat.le_refl _⟩)
    have Ht:=(bW.out.block _ (Array.getElem?_eq_some_iff.1 hta.out).1).trans hta.out
    have Hm:=hid ((bW.out.block _ (Array.getElem?_eq_some_iff.1 htm.out).1).trans htm.out)
    have Ho:=hid ((bW.out.block _ (Array.getElem?_eq_some_iff.1 hto.out).1).trans hto.out)
    have MM:=hid (mL_S (S:=fun k=>wr.heap.size≤k∧k<wc.heap.size) Ht hmt.out (((Vx3.out.below b3.out (Nat.le_refl _)).below bW.out (Nat.le_refl _)).mono fun k hk hS=>⟨hS,hk⟩) (((Vy3.out.below b3.out (Nat.le_refl _)).below bW.out (Nat.le_refl _)).mono fun k hk hS=>⟨hS,hk⟩))
    have hsm:=hid (mL_small (p:=p) (q:=q) (x:=x) (y:=y) ⟨g1,g2⟩ ⟨g3,g4⟩)
    have hd0':=hid (show wc.cell? ⟨g,0,none⟩=some (.int .i64 0) from hd0.out)
    have hd1':=hid (show wc.cell? ⟨g,1,none⟩=some (.int .i64 1) from hd1.out)
    have hd2':=hid (show wc.cell? ⟨g,2,none⟩=some (.int .i64 2) from hd2.out)
    have hd3':=hid (show wc.cell? ⟨g,3,none⟩=some (.int .i64 3) from hd3.out)
    clear hd0 hd1 hd2 hd3 Ht hta htm hto Vx3 Vy3 b3 Bb bD bW bM hsz hwr hs3 hwc hmt hO hS hg1 hg2
    generalize wb.heap.size+1+1=ob at *
    generalize wb.heap.size+1=mb at *
    generalize wb.heap.size=mt at *
    generalize wD.heap.size=wt at *
    obtain ⟨S,hSd⟩:∃S:Nat→Prop,(fun k=>wr.heap.size≤k∧k<wc.heap.size)=S:=⟨_,rfl⟩
    have smb:S mb:=by rw [←hSd];exact hmb.out
    have sob:S ob:=by rw [←hSd];exact hob.out
    have swt:S wt:=by rw [←hSd];exact hwt.out
    rw [hSd] at J0 MM
    clear hmb hob hwt hSd
    have hmb:=hid smb
    have hob:=hid sob
    have hwt:=hid swt
    clear smb sob swt
    obtain ⟨wM,rfl⟩:∃W,W=wc:=⟨_,rfl⟩
    go_wp2
    go_loopw [8,19,20,21,22,23] (fun v8 v19 _ _ _ _ wz=>∃j:Nat,j≤6∧v19 = .int .i64 j∧v8 = .bool false∧Hid (LogJ w pp (tabB j) (.slice (some ⟨g,0,none⟩) 4 cp) S wM wz)) (fun _ v19 _ _ _ _ _=>6 - (intOf v19).toNat)
    case atStart=>exact⟨0,Nat.zero_le _,rfl,rfl,J0.out⟩
    case round=>
     obtain ⟨j,hj,rfl,rfl,hJ⟩:=hrel
     clear J0
     by_cases hlt:j<6
     case pos=>
      have hji:(j:Int)<6:=by omega
      have hSl:=hid (Log_S (w:=w) (p:=pp) (cp:=cp) Ho.out hob.out (opB_at hlt) hd0'.out hd1'.out)
      have JD:=hid (hJ.out.all (keep_drew wr))
      go_upto_region 21 with fail
      refine wp_region_tt (S:=fun W=>W.cell? ⟨ob,j,none⟩=some (.int .i64 (opB j))∧W.cell? ⟨g,0,none⟩=some (.int .i64 0)∧W.cell? ⟨g,1,none⟩=some (.int .i64 1)) 18 (by kernel_rfl) (by kernel_rfl) (hSl.out _ _ JD.out) (fun hdr=>?_)
      clear hJ
      generalize wr.drew=wd at *
      have hS0:=hSl.out _ _ JD.out
      have hSa:=hid (hSl.out _ _ (JD.out.all ((Below.refl wd.heap.size _).alloc (Nat.le_refl _) (.cells #[.int .i64 0,.int .i64 1] 3))))
      have hmk:=mk2_call hE'.out JD.out.st (g_tabB j hj) (opB j) 0 1 (okB j).1 (okB j).2 ⟨by decide,by decide⟩ ⟨by decide,by decide⟩
      rw [mk_B j hlt] at hmk
      have hmk':=hid hmk
      clear hmk
      refine tk (i:=0) (h:=?_)
      (try simp only [Act.put,sA,sB,sC])
      refine tk (i:=1) (h:=?_)
      (try simp only [Act.put,sA,sB,sC])
      refine tk (i:=2) (h:=?_)
      (try simp only [Act.put,sA,sB,sC])
      refine tk (i:=3) (h:=?_)
      (try simp only [Act.put,sA,sB,sC])
      refine tk (i:=4) (hy:=(Or.inl ⟨by rfl,by(intro W hSw;have hq0:=hSw.1;have hq1:=hSw.2.1;have hq2:=hSw.2.2;go_simp <;> with_reducible rfl)⟩)) (h:=?_)
      (try simp only [Act.put,sA,sB,sC])
      refine tk (i:=5) (h:=?_)
      (try simp only [Act.put,sA,sB,sC])
      refine tk (i:=6) (h:=?_)
      (try simp only [Act.put,sA,sB,sC])
      refine tk (i:=7) (h:=?_)
      (try simp only [Act.put,sA,sB,sC])
      refine tk (i:=8) (hy:=(Or.inl ⟨by rfl,by(intro W hSw;have hq0:=hSw.1;have hq1:=hSw.2.1;have hq2:=hSw.2.2;go_simp <;> with_reducible rfl)⟩)) (h:=?_)
      (try simp only [Act.put,sA,sB,sC])
      refine tk (i:=9) (h:=?_)
      (try simp only [Act.put,sA,sB,sC])
      refine tk (i:=10) (h:=?_)
      (try simp only [Act.put,sA,sB,sC])
      refine tk (i:=11) (hy:=(Or.inl ⟨by rfl,by(intro W hSw;have hq0:=hSw.1;have hq1:=hSw.2.1;have hq2:=hSw.2.2;go_simp <;> with_reducible rfl)⟩)) (h:=?_)
      (try simp only [Act.put,sA,sB,sC])
      refine tt_ready (rs:=[12]) (by decide +kernel) (allT_cons (by rfl) (fun K hK=>?_) allT_nil)
      go_simp
      refine hK.out _ _ (by(exact hSa.out)) (fun hHeld2=>?_)
      clear hK K
      (try simp only [Act.put,sA,sB,sC])
      refine tt_ready (rs:=[13]) (by decide +kernel) (allT_cons (by rfl) (fun K hK=>?_) allT_nil)
      go_simp
      go_at_call 33
      refine hmk'.out.mono ?_
      rintro ee w5 ⟨rfl,i5,s5⟩
      have J5:=hid (LogJ.step (T':=tabB (j+1)) JD.out s5 i5)
      have hS5:=hid (hSl.out _ _ J5.out)
      clear JD i5 s5 hmk' hSa hS0
      (try dsimp only)
      refine hK.out _ _ (by(exact hS5.out)) (fun hHeld3=>?_)
      clear hK K
      (try simp only [Act.put,sA,sB,sC])
      refine tk (i:=14) (h:=?_)
      (try simp only [Act.put,sA,sB,sC])
      refine tk (i:=15) (h:=?_)
      (try simp only [Act.put,sA,sB,sC])
      refine tk (i:=16) (h:=?_)
      (try simp only [Act.put,sA,sB,sC])
      refine tk (i:=17) (h:=?_)
      (try simp only [Act.put,sA,sB,sC])
      refine tt_tail (by decide +kernel) ?_
      simp only [List.drop_succ_cons,List.drop_zero]
      have hmc:=cell_p (J5.out.blk Hm.out hmb.out) 0
      simp only [List.getElem?_toArray,List.getElem?_cons_zero] at hmc
      have hev:=meval_any w.heap.size pp _ (mL p q x y) (some ⟨mt,0,none⟩) 4 ((4+j:Nat):Int) w5 J5.out.st.t ((g_tabB (j+1) (by omega)).X _) (ar_tabB (j+1)) (J5.out.mod MM.out) hsm.out (by unfold okI;omega)
      rw [evalT_X,eval_B j hlt] at hev
      have hev':=hid (hev.mono fun e w' h=>ev_truth h)
      clear hev hS5
      go_wp2_with fail
      refine hev'.out.mono ?_
      rintro e w6 ⟨ea,ec,eb,ed,rfl,b6⟩
      have J6:=hid (J5.out.all b6)
      have J7:=hid (J6.out.all ((Below.refl w6.heap.size _).alloc (Nat.le_refl _) (.cells #[.int .i64 0,.bool (wantB p q j),.bool false,.slice ea 0 ec,.slice eb 0 ed,.int .i64 0] 64)))
      have XB:=heap_alloc_new w6 (.cells #[.int .i64 0,.bool (wantB p q j),.bool false,.slice ea 0 ec,.slice eb 0 ed,.int .i64 0] 64)
      have cw:=(cell_p (J7.out.blk Hw.out hwt.out) j).trans (want_at (wantB p q) hlt)
      have c0:=cell_p XB 0
      have c1:=cell_p XB 1
      simp only [List.getElem?_toArray,List.getElem?_cons_succ,List.getElem?_cons_zero] at c0 c1
      clear J5 J6 b6 XB hev' hmc
      go_upto_region 23 with fail
      generalize w6.alloc (.cells #[.int .i64 0,.bool (wantB p q j),.bool false,.slice ea 0 ec,.slice eb 0 ed,.int .i64 0] 64)=w7 at *
      generalize w6.heap.size=bx at *
      generalize hgw:wantB p q j=wj at *
      have hww:(wj != wj)=false:=by simp
      go_quiet (fail)
      have J8:=hid (J7.out.all ((Below.refl w7.heap.size w7).drewN nq))
      clear hgw c0 c1 cw J7
      go_wp2
      go_roundw
      case rel=>exact⟨j+1,by omega,by go_num,rfl,J8.out⟩
      case measure=>first | (simp [intOf];done) | (simp [intOf];omega)
     case neg=>
      obtain rfl:j=6:=by omega
      clear hlt hj
      have bE:=hid (below2 wr (.cells #[.int .i64 17,.int .i64 18,.int .i64 19,.int .i64 20,.int .i64 8,.int .i64 9] 3) (.cells #[.bool (decide (x≤y)),.bool (decide (x<y)),.bool (decide (y≤x)),.bool (decide (y<x)),.bool (x == y),.bool (x != y)] 4))
      have Ho2:=hid (heap2a wr (.cells #[.int .i64 17,.int .i64 18,.int .i64 19,.int .i64 20,.int .i64 8,.int .i64 9] 3) (.cells #[.bool (decide (x≤y)),.bool (decide (x<y)),.bool (decide (y≤x)),.bool (decide (y<x)),.bool (x == y),.bool (x != y)] 4))
      have Hw2:=hid (show((wr.alloc (.cells #[.int .i64 17,.int .i64 18,.int .i64 19,.int .i64 20,.int .i64 8,.int .i64 9] 3)).alloc (.cells #[.bool (decide (x≤y)),.bool (decide (x<y)),.bool (decide (y≤x)),.bool (decide (y<x)),.bool (x == y),.bool (x != y)] 4)).heap[wr.heap.size+1]? = some (.cells #[.bool (wantC x y 0),.bool (wantC x y 1),.bool (wantC x y 2),.bool (wantC x y 3),.bool (wantC x y 4),.bool (wantC x y 5)] 4 (0,0)) from heap2b wr (.cells #[.int .i64 17,.int .i64 18,.int .i64 19,.int .i64 20,.int .i64 8,.int .i64 9] 3) (.cells #[.bool (decide (x≤y)),.bool (decide (x<y)),.bool (decide (y≤x)),.bool (decide (y<x)),.bool (x == y),.bool (x != y)] 4))
      have hs2:=hid (show((wr.alloc (.cells #[.int .i64 17,.int .i64 18,.int .i64 19,.int .i64 20,.int .i64 8,.int .i64 9] 3)).alloc (.cells #[.bool (decide (x≤y)),.bool (decide (x<y)),.bool (decide (y≤x)),.bool (decide (y<x)),.bool (x == y),.bool (x != y)] 4)).heap.size=wr.heap.size+2 from by simp)
      have he0:=hid (keep_cell bE.out (hJ.out.cell hd0'.out rfl))
      have he2:=hid (keep_cell bE.out (hJ.out.cell hd2'.out rfl))
      have he3:=hid (keep_cell bE.out (hJ.out.cell hd3'.out rfl))
      have J0:=hid (hJ.out.here bE.out)
      have hw1:=hJ.out.blk Hm.out hmb.out
      have Hm2:=hid ((bE.out.block _ (Array.getElem?_eq_some_iff.1 hw1).1).trans hw1)
      have MM1:=hJ.out.mod MM.out
      have MM2:=hid (show ModS (fun k=>S k∨(wr.heap.size≤k∧k<((wr.alloc (.cells #[.int .i64 17,.int .i64 18,.int .i64 19,.int .i64 20,.int .i64 8,.int .i64 9] 3)).alloc (.cells #[.bool (decide (x≤y)),.bool (decide (x<y)),.bool (decide (y≤x)),.bool (decide (y<x)),.bool (x == y),.bool (x != y)] 4)).heap.size)) ((wr.alloc (.cells #[.int .i64 17,.int .i64 18,.int .i64 19,.int .i64 20,.int .i64 8,.int .i64 9] 3)).alloc (.cells #[.bool (decide (x≤y)),.bool (decide (x<y)),.bool (decide (y≤x)),.bool (decide (y<x)),.bool (x == y),.bool (x != y)] 4)) (mL p q x y) (some ⟨mt,0,none⟩) 4 from⟨(MM1.tbs.below bE.out (Nat.le_refl _)).mono fun k _ hk=>.inl hk,MM1.cap⟩)
      go_upto_region 28 with fail
      generalize ((wr.alloc (.cells #[.int .i64 17,.int .i64 18,.int .i64 19,.int .i64 20,.int .i64 8,.int .i64 9] 3)).alloc (.cells #[.bool (decide (x≤y)),.bool (decide (x<y)),.bool (decide (y≤x)),.bool (decide (y<x)),.bool (x == y),.bool (x != y)] 4))=wN at *
      obtain ⟨S2,hSd⟩:∃S2:Nat→Prop,(fun k=>S k∨(wr.heap.size≤k∧k<wN.heap.size))=S2:=⟨_,rfl⟩
      rw [hSd] at J0 MM2
      have smb:S2 mb:=by rw [←hSd];exact .inl hmb.out
      have sob:S2 wr.heap.size:=by rw [←hSd];exact .inr ⟨Nat.le_refl _,by rw [hs2.out];omega⟩
      have swt:S2 (wr.heap.size+1):=by rw [←hSd];exact .inr ⟨Nat.le_succ _,by rw [hs2.out];omega⟩
      clear hmb hob hwt hSd bE Ho Hw Hm hs2 hd0' hd1' hd2' hd3' hJ hw1 MM1 MM
      have hmb:=hid smb
      have hob:=hid sob
      have hwt:=hid swt
      have hd0':=he0
      have hd2':=he2
      have hd3':=he3
      have Ho:=Ho2
      have Hw:=Hw2
      have Hm:=Hm2
      have MM:=MM2
      clear smb sob swt he0 he2 he3 Ho2 Hw2 Hm2 MM2
      obtain ⟨T6,hT6⟩:∃T,T=tabC 0:=⟨_,rfl⟩
      rw [show tabB 6=T6 from hT6.symm] at J0
      subst hT6
      generalize wr.heap.size+1=wt2 at *
      generalize wr.heap.size=ob2 at *
      go_wp2
      go_loopw [8,24,25,26,27,28] (fun v8 v24 _ _ _ _ wz=>∃j:Nat,j≤6∧v24 = .int .i64 j∧v8 = .bool false∧Hid (LogJ w pp (tabC j) (.slice (some ⟨g,0,none⟩) 4 cp) S2 wN wz)) (fun _ v24 _ _ _ _ _=>6 - (intOf v24).toNat)
      case atStart=>exact⟨0,Nat.zero_le _,rfl,rfl,J0.out⟩
      case round=>
       obtain ⟨j,hj,rfl,rfl,hJ⟩:=hrel
       clear J0
       by_cases hlt:j<6
       case pos=>
        have hji:(j:Int)<6:=by omega
        have hSl:=hid (Log_S (w:=w) (p:=pp) (cp:=cp) Ho.out hob.out (opC_at hlt) hd2'.out hd3'.out)
        have JD:=hid (hJ.out.all (keep_drew wr))
        go_upto_region 30 with fail
        refine wp_region_tt (S:=fun W=>W.cell? ⟨ob2,j,none⟩=some (.int .i64 (opC j))∧W.cell? ⟨g,2,none⟩=some (.int .i64 2)∧W.cell? ⟨g,3,none⟩=some (.int .i64 3)) 18 (by kernel_rfl) (by kernel_rfl) (hSl.out _ _ JD.out) (fun hdr=>?_)
        clear hJ
        generalize wr.drew=wd at *
        have hS0:=hSl.out _ _ JD.out
        have hSa:=hid (hSl.out _ _ (JD.out.all ((Below.refl wd.heap.size _).alloc (Nat.le_refl _) (.cells #[.int .i64 2,.int .i64 3] 3))))
        have hmk:=mk2_call hE'.out JD.out.st (g_tabC j hj) (opC j) 2 3 (okC j).1 (okC j).2 ⟨by decide,by decide⟩ ⟨by decide,by decide⟩
        rw [mk_C j hlt] at hmk
        have hmk':=hid hmk
        clear hmk
        refine tk (i:=0) (h:=?_)
        (try simp only [Act.put,sA,sB,sC])
        refine tk (i:=1) (h:=?_)
        (try simp only [Act.put,sA,sB,sC])
        refine tk (i:=2) (h:=?_)
        (try simp only [Act.put,sA,sB,sC])
        refine tk (i:=3) (h:=?_)
        (try simp only [Act.put,sA,sB,sC])
        refine tk (i:=4) (hy:=(Or.inl ⟨by rfl,by(intro W hSw;have hq0:=hSw.1;have hq1:=hSw.2.1;have hq2:=hSw.2.2;go_simp <;> with_reducible rfl)⟩)) (h:=?_)
        (try simp only [Act.put,sA,sB,sC])
        refine tk (i:=5) (h:=?_)
        (try simp only [Act.put,sA,sB,sC])
        refine tk (i:=6) (h:=?_)
        (try simp only [Act.put,sA,sB,sC])
        refine tk (i:=7) (h:=?_)
        (try simp only [Act.put,sA,sB,sC])
        refine tk (i:=8) (hy:=(Or.inl ⟨by rfl,by(intro W hSw;have hq0:=hSw.1;have hq1:=hSw.2.1;have hq2:=hSw.2.2;go_simp <;> with_reducible rfl)⟩)) (h:=?_)
        (try simp only [Act.put,sA,sB,sC])
        refine tk (i:=9) (h:=?_)
        (try simp only [Act.put,sA,sB,sC])
        refine tk (i:=10) (h:=?_)
        (try simp only [Act.put,sA,sB,sC])
        refine tk (i:=11) (hy:=(Or.inl ⟨by rfl,by(intro W hSw;have hq0:=hSw.1;have hq1:=hSw.2.1;have hq2:=hSw.2.2;go_simp <;> with_reducible rfl)⟩)) (h:=?_)
        (try simp only [Act.put,sA,sB,sC])
        refine tt_ready (rs:=[12]) (by decide +kernel) (allT_cons (by rfl) (fun K hK=>?_) allT_nil)
        go_simp
        refine hK.out _ _ (by(exact hSa.out)) (fun hHeld2=>?_)
        clear hK K
        (try simp only [Act.put,sA,sB,sC])
        refine tt_ready (rs:=[13]) (by decide +kernel) (allT_cons (by rfl) (fun K hK=>?_) allT_nil)
        go_simp
        go_at_call 33
        refine hmk'.out.mono ?_
        rintro ee w5 ⟨rfl,i5,s5⟩
        have J5:=hid (LogJ.step (T':=tabC (j+1)) JD.out s5 i5)
        have hS5:=hid (hSl.out _ _ J5.out)
        clear JD i5 s5 hmk' hSa hS0
        (try dsimp only)
        refine hK.out _ _ (by(exact hS5.out)) (fun hHeld3=>?_)
        clear hK K
        (try simp only [Act.put,sA,sB,sC])
        refine tk (i:=14) (h:=?_)
        (try simp only [Act.put,sA,sB,sC])
        refine tk (i:=15) (h:=?_)
        (try simp only [Act.put,sA,sB,sC])
        refine tk (i:=16) (h:=?_)
        (try simp only [Act.put,sA,sB,sC])
        refine tk (i:=17) (h:=?_)
        (try simp only [Act.put,sA,sB,sC])
        refine tt_tail (by decide +kernel) ?_
        simp only [List.drop_succ_cons,List.drop_zero]
        have hmc:=cell_p (J5.out.blk Hm.out hmb.out) 0
        simp only [List.getElem?_toArray,List.getElem?_cons_zero] at hmc
        have hev:=meval_any w.heap.size pp _ (mL p q x y) (some ⟨mt,0,none⟩) 4 ((10+j:Nat):Int) w5 J5.out.st.t ((g_tabC (j+1) (by omega)).X _) (ar_tabC (j+1)) (J5.out.mod MM.out) hsm.out (by unfold okI;omega)
        rw [evalT_X,eval_C ⟨g1,g2⟩ ⟨g3,g4⟩ j hlt] at hev
        have hev':=hid (hev.mono fun e w' h=>ev_truth h)
        clear hev hS5
        go_wp2_with fail
        refine hev'.out.mono ?_
        rintro e w6 ⟨ea,ec,eb,ed,rfl,b6⟩
        have J6:=hid (J5.out.all b6)
        have J7:=hid (J6.out.all ((Below.refl w6.heap.size _).alloc (Nat.le_refl _) (.cells #[.int .i64 0,.bool (wantC x y j),.bool false,.slice ea 0 ec,.slice eb 0 ed,.int .i64 0] 64)))
        have XB:=heap_alloc_new w6 (.cells #[.int .i64 0,.bool (wantC x y j),.bool false,.slice ea 0 ec,.slice eb 0 ed,.int .i64 0] 64)
        have cw:=(cell_p (J7.out.blk Hw.out hwt.out) j).trans (want_at (wantC x y) hlt)
        have c0:=cell_p XB 0
        have c1:=cell_p XB 1
        simp only [List.getElem?_toArray,List.getElem?_cons_succ,List.getElem?_cons_zero] at c0 c1
        clear J5 J6 b6 XB hev' hmc
        go_upto_region 32 with fail
        generalize w6.alloc (.cells #[.int .i64 0,.bool (wantC x y j),.bool false,.slice ea 0 ec,.slice eb 0 ed,.int .i64 0] 64)=w7 at *
        generalize w6.heap.size=bx at *
        generalize hgw:wantC x y j=wj at *
        have hww:(wj != wj)=false:=by simp
        go_quiet (fail)
        have J8:=hid (J7.out.all ((Below.refl w7.heap.size w7).drewN nq))
        clear hgw c0 c1 cw J7
        go_wp2
        refine⟨?_,?measure⟩
        (repeat apply Exists.intro)
        refine⟨?rel,rfl⟩
        case rel=>exact⟨j+1,by omega,by go_num,rfl,J8.out⟩
        case measure=>first | (simp [intOf];done) | (simp [intOf];omega)
       case neg=>
        obtain rfl:j=6:=by omega
        clear hlt hj
        have e0:=hJ.out.cell hd0'.out rfl
        have e2:=hJ.out.cell hd2'.out rfl
        have e3:=hJ.out.cell hd3'.out rfl
        have hmn:=mkn_call hE'.out hJ.out.st (g_tabC 6 (by decide)) 3 0 ⟨by decide,by decide⟩ (by decide) ⟨by decide,by decide⟩
        rw [mk_not] at hmn
        have hmn':=hid hmn
        clear hmn
        go_wp2_with fail
        refine hmn'.out.mono ?_
        rintro e w5 ⟨rfl,i5,s5⟩
        have J5:=hid (LogJ.step (T':=L17) hJ.out s5 i5)
        clear hmn' i5 s5 hJ e0 e2 e3
        have JD:=hid (J5.out.all (keep_drew w5))
        have hSl:=hid (fun(T:TermD) (W:World) (J:LogJ w pp T (.slice (some ⟨g,0,none⟩) 4 cp) S2 wN W)=>(show W.cell? ⟨g,2,none⟩=some (.int .i64 2)∧W.cell? ⟨g,3,none⟩=some (.int .i64 3) from⟨J.cell hd2'.out rfl,J.cell hd3'.out rfl⟩))
        go_upto_region 35 with fail
        refine wp_region_tt (S:=fun W=>W.cell? ⟨g,2,none⟩=some (.int .i64 2)∧W.cell? ⟨g,3,none⟩=some (.int .i64 3)) 15 (by kernel_rfl) (by kernel_rfl) (hSl.out _ _ JD.out) (fun hdr=>?_)
        clear J5
        generalize w5.drew=wd at *
        have hS0:=hSl.out _ _ JD.out
        have hSa:=hid (hSl.out _ _ (JD.out.all ((Below.refl wd.heap.size _).alloc (Nat.le_refl _) (.cells #[.int .i64 16,.int .i64 2,.int .i64 3] 3))))
        have hmk:=mk3_call hE'.out JD.out.st g_L17 10 16 2 3 ⟨by decide,by decide⟩ (by decide) ⟨by decide,by decide⟩ ⟨by decide,by decide⟩ ⟨by decide,by decide⟩
        rw [show mk3 L17 10 16 2 3=((17,0),L18) from mk_iteL] at hmk
        have hmk':=hid hmk
        clear hmk
        refine tk (i:=0) (h:=?_)
        (try simp only [Act.put,sA,sB,sC])
        refine tk (i:=1) (h:=?_)
        (try simp only [Act.put,sA,sB,sC])
        refine tk (i:=2) (h:=?_)
        (try simp only [Act.put,sA,sB,sC])
        refine tk (i:=3) (h:=?_)
        (try simp only [Act.put,sA,sB,sC])
        refine tk (i:=4) (h:=?_)
        (try simp only [Act.put,sA,sB,sC])
        refine tk (i:=5) (hy:=(Or.inl ⟨by rfl,by(intro W hSw;have hq1:=hSw.1;have hq2:=hSw.2;go_simp <;> with_reducible rfl)⟩)) (h:=?_)
        (try simp only [Act.put,sA,sB,sC])
        refine tk (i:=6) (h:=?_)
        (try simp only [Act.put,sA,sB,sC])
        refine tk (i:=7) (h:=?_)
        (try simp only [Act.put,sA,sB,sC])
        refine tk (i:=8) (hy:=(Or.inl ⟨by rfl,by(intro W hSw;have hq1:=hSw.1;have hq2:=hSw.2;go_simp <;> with_reducible rfl)⟩)) (h:=?_)
        (try simp only [Act.put,sA,sB,sC])
        refine tt_ready (rs:=[9]) (by decide +kernel) (allT_cons (by rfl) (fun K hK=>?_) allT_nil)
        go_simp
        refine hK.out _ _ (by(exact hSa.out)) (fun hHeld2=>?_)
        clear hK K
        (try simp only [Act.put,sA,sB,sC])
        refine tt_ready (rs:=[10]) (by decide +kernel) (allT_cons (by rfl) (fun K hK=>?_) allT_nil)
        go_simp
        go_at_call 33
        refine hmk'.out.mono ?_
        rintro ee w5 ⟨rfl,i5,s5⟩
        have J5:=hid (LogJ.step (T':=L18) JD.out s5 i5)
        have hS5:=hid (hSl.out _ _ J5.out)
        clear JD i5 s5 hmk' hSa hS0
        (try dsimp only)
        refine hK.out _ _ (by(exact hS5.out)) (fun hHeld3=>?_)
        clear hK K
        (try simp only [Act.put,sA,sB,sC])
        refine tk (i:=11) (h:=?_)
        (try simp only [Act.put,sA,sB,sC])
        refine tk (i:=12) (h:=?_)
        (try simp only [Act.put,sA,sB,sC])
        refine tk (i:=13) (h:=?_)
        (try simp only [Act.put,sA,sB,sC])
        refine tk (i:=14) (h:=?_)
        (try simp only [Act.put,sA,sB,sC])
        refine tt_tail (by decide +kernel) ?_
        simp only [List.drop_succ_cons,List.drop_zero]
        have hmc:=cell_p (J5.out.blk Hm.out hmb.out) 0
        simp only [List.getElem?_toArray,List.getElem?_cons_zero] at hmc
        have hev:=meval_any w.heap.size pp _ (mL p q x y) (some ⟨mt,0,none⟩) 4 17 w5 J5.out.st.t (g_L18.X _) ar_L18 (J5.out.mod MM.out) hsm.out ⟨by decide,by decide⟩
        rw [evalT_X,eval_ite] at hev
        have hev':=hid hev
        clear hev hS5
        go_wp2_with fail
        refine hev'.out.mono ?_
        rintro e w6 ⟨ea,ec,eb,ed,rfl,VE,b6⟩
        have B6:=hid (J5.out.all b6).st.b
        have VE:=hid VE.top
        obtain ⟨V,hV⟩:∃V,numV (if p=true then y else x) 7=V:=⟨_,rfl⟩
        rw [hV] at VE
        have hVh:=hid hV
        have VE:=hid (show ValS (fun _=>True) w6 V ea ec eb ed from VE.out)
        simp only [hV]
        clear hev' b6 J5 hmc hV
        have bn:=hid ((Below.refl w6.heap.size w6).alloc (Nat.le_refl _) (.cells #[.int .i64 V.sort,.bool V.bool,.bool V.num.neg,.slice ea V.num.num.length ec,.slice eb V.num.den.length ed,.int .i64 V.el] 64))
        have XV:=hid (heap_alloc_new w6 (.cells #[.int .i64 V.sort,.bool V.bool,.bool V.num.neg,.slice ea V.num.num.length ec,.slice eb V.num.den.length ed,.int .i64 V.el] 64))
        have B7:=hid (B6.out.trans (bn.out.mono B6.out.size))
        have VE7:=hid ((VE.out.mono (S':=fun k=>k<w6.heap.size) fun k hk _=>hk).below bn.out (Nat.le_refl _))
        go_upto_region 37 with fail
        generalize (w6.alloc (.cells #[.int .i64 V.sort,.bool V.bool,.bool V.num.neg,.slice ea V.num.num.length ec,.slice eb V.num.den.length ed,.int .i64 V.el] 64))=w7 at *
        generalize w6.heap.size=bv at *
        have hx0:=hid (number10_any x 7 ⟨by omega,by omega⟩ (by decide) ⟨by decide,by decide⟩ w7)
        clear bn VE B6 hSl hdr hHeld2 hHeld3 MM hd0' hd2' hd3' Hm Hw Ho
        go_wp2_with fail
        refine hx0.out.mono ?_
        rintro e w8 ⟨xa,xc,xb,xd,rfl,VX,b8⟩
        have VE8:=hid (VE7.out.below b8 (Nat.le_refl _))
        have XV8:=hid ((b8.block _ (Array.getElem?_eq_some_iff.1 XV.out).1).trans XV.out)
        have B8:=hid (B7.out.trans (b8.mono B7.out.size))
        have VX8:=hid VX.top
        have hb8:=hid b8.size
        clear hx0 VX b8 VE7 XV B7
        have bn:=hid ((Below.refl w8.heap.size w8).alloc (Nat.le_refl _) (.cells #[.int .i64 (numV x 7).sort,.bool (numV x 7).bool,.bool (numV x 7).num.neg,.slice xa (numV x 7).num.num.length xc,.slice xb (numV x 7).num.den.length xd,.int .i64 (numV x 7).el] 64))
        have XX:=hid (heap_alloc_new w8 (.cells #[.int .i64 (numV x 7).sort,.bool (numV x 7).bool,.bool (numV x 7).num.neg,.slice xa (numV x 7).num.num.length xc,.slice xb (numV x 7).num.den.length xd,.int .i64 (numV x 7).el] 64))
        have hbv:=hid (Array.getElem?_eq_some_iff.1 XV8.out).1
        have XV9:=hid ((bn.out.block _ hbv.out).trans XV8.out)
        have VE9:=hid (VE8.out.below bn.out (Nat.le_refl _))
        have VX9:=hid (VX8.out.below bn.out (Nat.le_refl _))
        have B9:=hid (B8.out.trans (bn.out.mono B8.out.size))
        have hbx:=hid B8.out.size
        have hw9:=hid (show w8.heap.size<(w8.alloc (.cells #[.int .i64 (numV x 7).sort,.bool (numV x 7).bool,.bool (numV x 7).num.neg,.slice xa (numV x 7).num.num.length xc,.slice xb (numV x 7).num.den.length xd,.int .i64 (numV x 7).el] 64)).heap.size by simp)
        go_upto_region 38 with fail
        generalize (w8.alloc (.cells #[.int .i64 (numV x 7).sort,.bool (numV x 7).bool,.bool (numV x 7).num.neg,.slice xa (numV x 7).num.num.length xc,.slice xb (numV x 7).num.den.length xd,.int .i64 (numV x 7).el] 64))=w9 at *
        clear VE8 XV8 B8 VX8 bn hb8
        generalize w8.heap.size=bw at *
        cases p
        case false=>
         have hV:=hVh.out
         simp only [Bool.false_eq_true,if_false] at hV
         subst hV
         have hss:=same10_any (numV x 7) (numV x 7) ea eb xa xb ec ed xc xd w9 VE9.out VX9.out (small_numV (by decide) ⟨by omega,by omega⟩ (by decide)) (small_numV (by decide) ⟨by omega,by omega⟩ (by decide))
         rw [fullV_refl] at hss
         have hs':=hid hss
         clear hss
         have u0:=cell_p XV9.out 0
         have u1:=cell_p XV9.out 1
         have u2:=cell_p XV9.out 2
         have u3:=cell_p XV9.out 3
         have u4:=cell_p XV9.out 4
         have u5:=cell_p XV9.out 5
         have v0:=cell_p XX.out 0
         have v1:=cell_p XX.out 1
         have v2:=cell_p XX.out 2
         have v3:=cell_p XX.out 3
         have v4:=cell_p XX.out 4
         have v5:=cell_p XX.out 5
         simp only [List.getElem?_toArray,List.getElem?_cons_succ,List.getElem?_cons_zero] at u0 u1 u2 u3 u4 u5 v0 v1 v2 v3 v4 v5
         clear VE9 VX9 XV9 XX
         go_wp2_with fail
         refine hs'.out.mono ?_
         rintro e w10 ⟨rfl,b10⟩
         have B10:=hid (B9.out.trans (b10.mono B9.out.size))
         clear hs' b10 B9
         have ha:=hid (haw.out w10 B10.out)
         go_wp2_with fail
         refine ha.out.mono ?_
         rintro e w11 ⟨rfl,b11⟩
         have B11:=hid (B10.out.trans (b11.mono B10.out.size))
         clear ha b11 B10
         go_wp2
         go_ret
         exact⟨rfl,B11.out⟩
        case true=>
         have hV:=hVh.out
         simp only [if_true] at hV
         subst hV
         have hy0:=hid (number10_any y 7 ⟨by omega,by omega⟩ (by decide) ⟨by decide,by decide⟩ w9)
         go_wp2_with fail
         refine hy0.out.mono ?_
         rintro e w10 ⟨ya,yc,yb,yd,rfl,VY,b10⟩
         have VE10:=hid (VE9.out.below b10 (Nat.le_refl _))
         have XV10:=hid ((b10.block _ (Array.getElem?_eq_some_iff.1 XV9.out).1).trans XV9.out)
         have XX10:=hid ((b10.block _ (Array.getElem?_eq_some_iff.1 XX.out).1).trans XX.out)
         have B10:=hid (B9.out.trans (b10.mono B9.out.size))
         have VY10:=hid (VY.mono (S':=fun k=>w9.heap.size≤k) fun k _ hk=>hk.2)
         clear hy0 VY b10 VE9 XV9 XX B9 VX9
         have x5:=XX10.out
         have z0:=cell_p x5 0
         have z1:=cell_p x5 1
         have z2:=cell_p x5 2
         have z3:=cell_p x5 3
         have z4:=cell_p x5 4
         have z5:=cell_p x5 5
         have f0:=frz_p x5 0
         have f1:=frz_p x5 1
         have f2:=frz_p x5 2
         have f3:=frz_p x5 3
         have f4:=frz_p x5 4
         have f5:=frz_p x5 5
         simp only [List.getElem?_toArray,List.getElem?_cons_succ,List.getElem?_cons_zero] at z0 z1 z2 z3 z4 z5
         clear x5
         go_upto_region 40 with fail
         obtain ⟨w11,hw11⟩:∃W,W=setL bw [(0,.int .i64 (numV y 7).sort),(1,.bool (numV y 7).bool),(2,.bool (numV y 7).num.neg),(3,.slice ya (numV y 7).num.num.length yc),(4,.slice yb (numV y 7).num.den.length yd),(5,.int .i64 (numV y 7).el)] w10:=⟨_,rfl⟩
         have hch:((((((w10.setCell ⟨bw,0,none⟩ (.int .i64 (numV y 7).sort)).setCell ⟨bw,1,none⟩ (.bool (numV y 7).bool)).setCell ⟨bw,2,none⟩ (.bool (numV y 7).num.neg)).setCell ⟨bw,3,none⟩ (.slice ya (numV y 7).num.num.length yc)).setCell ⟨bw,4,none⟩ (.slice yb (numV y 7).num.den.length yd)).setCell ⟨bw,5,none⟩ (.int .i64 (numV y 7).el))=w11:=hw11.symm
         rw [hch]
         have XX11:=hid (show w11.heap[bw]? = some (.cells #[.int .i64 (numV y 7).sort,.bool (numV y 7).bool,.bool (numV y 7).num.neg,.slice ya (numV y 7).num.num.length yc,.slice yb (numV y 7).num.den.length yd,.int .i64 (numV y 7).el] 64 (0,0)) from by
          rw [hw11,setL_heap _ _ _ XX10.out]
          simp only [List.foldl_cons,List.foldl_nil]
          simp)
         have hne:bv≠bw:=by have:=hbv.out;omega
         have XV11:=hid ((show w11.heap[bv]? = w10.heap[bv]? from by rw [hw11];exact setL_other hne _ _).trans XV10.out)
         have hsz:=hid (show w11.heap.size=w10.heap.size from by rw [hw11];exact setL_size _ _)
         have hot:=hid (fun(k:Nat) (hk:k≠bw)=>show w11.heap[k]? = w10.heap[k]? from by rw [hw11];exact setL_other hk _ _)
         have B11:=hid (show Below w.heap.size w w11 from by rw [hw11];exact(setL_dat (t:=64) (by decide) (by decide) _ w10 _ XX10.out).2.2 _ _ hbx.out B10.out)
         have VE11:=hid (VE10.out.keep (fun k _ hk=>hot.out k (by have:=hbv.out;omega)) (Nat.le_of_eq hsz.out.symm))
         have VY11:=hid (VY10.out.keep (fun k _ hk=>hot.out k (by have:=hw9.out;omega)) (Nat.le_of_eq hsz.out.symm))
         clear hch hw11 XX10 XV10 hsz hot B10 VE10 VY10 z0 z1 z2 z3 z4 z5 f0 f1 f2 f3 f4 f5
         have hss:=same10_any (numV y 7) (numV y 7) ea eb ya yb ec ed yc yd w11 VE11.out VY11.out (small_numV (by decide) ⟨by omega,by omega⟩ (by decide)) (small_numV (by decide) ⟨by omega,by omega⟩ (by decide))
         rw [fullV_refl] at hss
         have hs':=hid hss
         clear hss
         have u0:=cell_p XV11.out 0
         have u1:=cell_p XV11.out 1
         have u2:=cell_p XV11.out 2
         have u3:=cell_p XV11.out 3
         have u4:=cell_p XV11.out 4
         have u5:=cell_p XV11.out 5
         have v0:=cell_p XX11.out 0
         have v1:=cell_p XX11.out 1
         have v2:=cell_p XX11.out 2
         have v3:=cell_p XX11.out 3
         have v4:=cell_p XX11.out 4
         have v5:=cell_p XX11.out 5
         simp only [List.getElem?_toArray,List.getElem?_cons_succ,List.getElem?_cons_zero] at u0 u1 u2 u3 u4 u5 v0 v1 v2 v3 v4 v5
         clear VE11 VY11 XV11 XX11
         go_wp2_with fail
         refine hs'.out.mono ?_
         rintro e w12 ⟨rfl,b12⟩
         have B12:=hid (B11.out.trans (b12.mono B11.out.size))
         clear hs' b12 B11
         have ha:=hid (haw.out w12 B12.out)
         go_wp2_with fail
         refine ha.out.mono ?_
         rintro e w13 ⟨rfl,b13⟩
         have B13:=hid (B12.out.trans (b13.mono B12.out.size))
         clear ha b13 B12
         go_wp2
         go_ret
         exact⟨rfl,B13.out⟩
end Go.Proofs.YtgoojkiccdjplaaGreatDoor
