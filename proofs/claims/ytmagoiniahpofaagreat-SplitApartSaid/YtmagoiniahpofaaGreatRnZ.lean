/-
  Segments by small numbers as an argument: what reads as a row of them is one in memory. No walk.
-/
import Derived.Test.YtmagoiniahpofaaGreatGC
import Derived.Test.YtmagoiniahpofaaGreatRnX
import Derived.Test.YtmagoiniahpofaaGreatKnX
import Derived.WideShapes
import Derived.ChangeShapes
import Derived.Deep.Strs
namespace Go.Proofs.YtmagoiniahpofaaGreat
open Go Go.ChangeShapes Go.WideShapes Go.ChangeAt Go.RowKit
theorem choose_list {α:Type} (n:Nat) (p:Nat→α→Prop) (h:∀ i,i<n→∃ x,p i x):∃ l:List α,l.length=n∧∀ i x,l[i]? =some x→p i x:=by
 induction n with
 |zero=>exact⟨[],rfl,fun i x e=>by simp at e⟩
 |succ n ih=>
  obtain⟨l,hl,hp⟩:=ih fun i hi=>h i (by omega)
  obtain⟨x,hx⟩:=h n (by omega)
  refine⟨l++[x],by simp[hl],fun i y e=> ?_⟩
  by_cases hi:i<n
  ·rw[List.getElem?_append_left (by omega)] at e
   exact hp i y e
  ·have hlt:i<(l++[x]).length:=(List.getElem?_eq_some_iff.1 e).1
   simp at hlt
   obtain rfl:i=n:=by omega
   rw[List.getElem?_append_right (by omega),hl,Nat.sub_self] at e
   cases e
   exact hx
theorem add_none (g o j:Nat):(⟨g,o,none⟩:Addr).add j=⟨g,o+j,none⟩:=by
 unfold Addr.add
 split
 ·rename_i h;subst h;rfl
 ·rfl
theorem add_add (a:Addr) (i j:Nat):(a.add i).add j=a.add (i+j):=Deep.add_add a i j
theorem addr_plain {w:World} {a:Addr} {u:Value} (h:w.cell? a=some u):∃ g o,a=⟨g,o,none⟩∧g<w.heap.size:=by
 obtain⟨g,o,s⟩:=a
 have hlt:=World.block_lt_of_cell? _ _ h
 unfold World.cell? at h
 split at h
 ·cases s with
  |none=>exact⟨g,o,rfl,hlt⟩
  |some s=>simp at h
 ·cases h
def Rng64 (a:Int):Prop:= -9223372036854775808≤a∧a≤9223372036854775807
theorem rng64_wf {n:Int} (h:(Lit.int .i64 n).wf=true):Rng64 n:=by
 unfold Lit.wf at h
 simp[IntKind.min,IntKind.max,IntKind.signed,IntKind.bits] at h
 exact⟨by omega,by omega⟩
structure PQ where
 ax:Int
 ay:Int
 ad:Int
 cx:Int
 cy:Int
 cd:Int
def PQ.cells (p:PQ):List Value:=[.int .i64 p.ax,.int .i64 p.ay,.int .i64 p.ad,.int .i64 p.cx,.int .i64 p.cy,.int .i64 p.cd]
def PQ.ok (p:PQ):Prop:=Rng64 p.ax∧Rng64 p.ay∧Rng64 p.ad∧Rng64 p.cx∧Rng64 p.cy∧Rng64 p.cd
def PqIs (w:World) (v:Value) (l:List PQ):Prop:=
 l.length≤9223372036854775807∧(∀ p∈l,p.ok)∧∃ a cap,v= .slice a l.length cap∧(l=[]∨∃ g o,a=some ⟨g,o,none⟩∧g<w.heap.size∧∀ i p,l[i]? =some p→∀ j c,p.cells[j]? =some c→w.cell? ⟨g,o+i*6+j,none⟩=some c)
theorem cellsInt:Tryz.prog.cellsOf 3 =1:=by kernel_rfl
theorem cellsDot:Tryz.prog.cellsOf 48 =3:=by kernel_rfl
theorem cellsPair:Tryz.prog.cellsOf 50 =6:=by kernel_rfl
section
variable {H:Type} {enc:TypeId × Value→H} {W:World}
set_option maxRecDepth 100000 in
theorem open_dot (fuel:Nat) (c0 c1 c2:Value) (x:DataW H × List MemPlace) (h:DataW.trod enc Tryz.prog W 0 (fun _=>true) true fuel 48 [c0,c1,c2]=some x) :
  ∃ a b d:Int,c0= .int .i64 a∧c1= .int .i64 b∧c2= .int .i64 d∧Rng64 a∧Rng64 b∧Rng64 d:=by
 obtain⟨xs,n1,rfl,rfl,hl,hlen,hf⟩:=DataW.trod_struct Tryz.underlying48 h
 match xs,hlen with
 |[y0,y1,y2],_=>
  have f0:DataW.trod enc Tryz.prog W 0 (fun _=>true) true n1 3 (([c0,c1,c2].drop 0).take (Tryz.prog.cellsOf 3))=some y0:=hf 0 _ rfl
  rw[cellsInt] at f0
  have f1:DataW.trod enc Tryz.prog W 0 (fun _=>true) true n1 3 (([c0,c1,c2].drop 1).take (Tryz.prog.cellsOf 3))=some y1:=hf 1 _ rfl
  rw[cellsInt] at f1
  have f2:DataW.trod enc Tryz.prog W 0 (fun _=>true) true n1 3 (([c0,c1,c2].drop 2).take (Tryz.prog.cellsOf 3))=some y2:=hf 2 _ rfl
  rw[cellsInt] at f2
  have g0:DataW.trod enc Tryz.prog W 0 (fun _=>true) true n1 3 [c0]=some y0:=f0
  have g1:DataW.trod enc Tryz.prog W 0 (fun _=>true) true n1 3 [c1]=some y1:=f1
  have g2:DataW.trod enc Tryz.prog W 0 (fun _=>true) true n1 3 [c2]=some y2:=f2
  obtain⟨a,e0,_,w0⟩:=DataW.trod_int Tryz.underlying3 g0
  obtain⟨b,e1,_,w1⟩:=DataW.trod_int Tryz.underlying3 g1
  obtain⟨d,e2,_,w2⟩:=DataW.trod_int Tryz.underlying3 g2
  cases e0;cases e1;cases e2
  exact⟨a,b,d,rfl,rfl,rfl,rng64_wf w0,rng64_wf w1,rng64_wf w2⟩
theorem list6 {α:Type} {cs:List α} (h:cs.length=6):∃ c0 c1 c2 c3 c4 c5,cs=[c0,c1,c2,c3,c4,c5]:=by
 match cs,h with
 |[a,b,c,d,e,f],_=>exact⟨a,b,c,d,e,f,rfl⟩
set_option maxRecDepth 100000 in
theorem open_pair (fuel:Nat) (cs:List Value) (x:DataW H × List MemPlace) (h:DataW.trod enc Tryz.prog W 0 (fun _=>true) true fuel 50 cs=some x):∃ p:PQ,cs=p.cells∧p.ok:=by
 obtain⟨xs,n1,rfl,rfl,hl,hlen,hf⟩:=DataW.trod_struct Tryz.underlying50 h
 rw[cellsPair] at hl
 match xs,hlen with
 |[y0,y1],_=>
  have f0:DataW.trod enc Tryz.prog W 0 (fun _=>true) true n1 48 ((cs.drop 0).take (Tryz.prog.cellsOf 48))=some y0:=hf 0 _ rfl
  rw[cellsDot] at f0
  have f1:DataW.trod enc Tryz.prog W 0 (fun _=>true) true n1 48 ((cs.drop 3).take (Tryz.prog.cellsOf 48))=some y1:=hf 1 _ rfl
  rw[cellsDot] at f1
  obtain⟨c0,c1,c2,c3,c4,c5,rfl⟩:=list6 hl
  have g0:DataW.trod enc Tryz.prog W 0 (fun _=>true) true n1 48 [c0,c1,c2]=some y0:=f0
  have g1:DataW.trod enc Tryz.prog W 0 (fun _=>true) true n1 48 [c3,c4,c5]=some y1:=f1
  obtain⟨a,b,d,rfl,rfl,rfl,h1,h2,h3⟩:=open_dot n1 _ _ _ _ g0
  obtain⟨a',b',d',rfl,rfl,rfl,k1,k2,k3⟩:=open_dot n1 _ _ _ _ g1
  exact⟨⟨a,b,d,a',b',d'⟩,rfl,h1,h2,h3,k1,k2,k3⟩
end
end Go.Proofs.YtmagoiniahpofaaGreat
namespace Go.Proofs.YtmagoiniahpofaaGreat
open Go Go.RowKit
def rpC (p:Int × Int × Int):List Cell:=[.v (.int .i64 p.1.sign),.m p.1.natAbs,.v (.int .i64 p.2.1.sign),.m p.2.1.natAbs,.v (.int .i64 p.2.2.sign),.m p.2.2.natAbs]
abbrev Rp:=Int × Int × Int
def rsC (s:Rp × Rp):List Cell:=rpC s.1++rpC s.2
def undV (d:Int):Int:=1+d%18446744073709551616%60
theorem undV_pos (d:Int):0<undV d∧undV d≤60:=by unfold undV;omega
def dotC (x y d:Int):List Cell:=[.v (.int .i64 x),.v (.int .i64 y),.v (.int .i64 d)]
def undS:Spec
 |[.o (.s true [.v (.int .i64 _x),.v (.int .i64 _y),.v (.int .i64 d)])]=>some (.s false [.v (.int .i64 (undV d))],[])
 |_=>none
def rAtS:Spec
 |[.o (.s true [.v (.int .i64 x),.v (.int .i64 y),.v (.int .i64 d)])]=>some (.s true (rpC (x,y,undV d)),[I64s x,I64s y])
 |_=>none
def pAtS:Spec
 |[.o (.s true [.v (.int .i64 x),.v (.int .i64 y),.v (.int .i64 d)])]=>some (.s true (ptC (Rat.divInt x (undV d),Rat.divInt y (undV d)) 4),[I64s x,I64s y])
 |_=>none
def fofC:Run:=pureC fun avs=>match avs with
 |[.s false [.v (.int .i64 x)],.s false [.v (.int .i64 y)]]=>some (.tup [(true,qC (Rat.divInt x y) 4),(false,[.v (.int .i64 0)])],[I64s x,I64s y,y≠0])
 |_=>none
theorem rl_div4 {x y:Int} (hx:I64s x) (hy:I64s y) (h0:y≠0):rl (Rat.divInt x y)≤4:=by
 have:=rlen_divInt (k:=2) h0 (limbs_s64 hx) (limbs_s64 hy)
 unfold rlen at this
 unfold rl
 omega
theorem fofC_ok (B:Nat):RunOK Tryz.prog False B 33 fofC:=by
 refine runOK_pure (by kernel_rfl) fun avs spec ps hr hp G F w vs hvs=> ?_
 split at hr
 ·rename_i x y
  cases hr
  obtain⟨h1,h2,h3,_⟩:=hp
  match vs,hvs with
  |[a,b],hvs=>
   have ea:=(v_inv (one_inv (hvs.2 0 _ a rfl rfl))).1
   have eb:=(v_inv (one_inv (hvs.2 1 _ b rfl rfl))).1
   subst ea eb
   refine (of_any x y w h1.1 h1.2 h2.1 h2.2 h3).mono ?_
   rintro e w' ⟨r,rfl,h4,h5⟩
   exact⟨_,rfl,fun F'=>tup2_ok (q_of h4 (rl_div4 h1 h2 h3)) (one_ok (GOk.of (.v _ rfl))),⟨h5,fun h=>h.elim⟩⟩
  |[],hvs=>cases hvs.1
  |[_],hvs=>cases hvs.1
  |_::_::_::_,hvs=>cases hvs.1
 ·cases hr
def gUn:List (Nat × Run):=[(34,runC undS),(35,runC jofS),(33,fofC)]
theorem und_vc (x y d:Int):vc Tryz.prog (lk []) Tryz.f34.ntmps [] (Tryz.f34.body.getD .skip) ⟨entryS [.s true (dotC x y d)] 0,[]⟩ (retVC Tryz.prog Tryz.f34.results.toList (.s false [.v (.int .i64 (undV d))]))=((60:Int)≠(0:Int)∧AVle (AV.s false [Cell.v (Value.int IntKind.i64 (IntKind.wrap IntKind.i64 ((1:Int)+IntKind.wrap IntKind.i64 (Int.tmod (IntKind.wrap IntKind.u64 d) (60:Int)))))]) (AV.s false [Cell.v (Value.int IntKind.i64 (undV d))])):=by kernel_rfl
theorem rAt_vc (x y d:Int):vc Tryz.prog (lk gUn) Tryz.f10.ntmps [] (Tryz.f10.body.getD .skip) ⟨entryS [.s true (dotC x y d)] 0,[]⟩ (retVC Tryz.prog Tryz.f10.results.toList (.s true (rpC (x,y,undV d))))=(I64s x∧I64s y∧I64s (undV d)∧AVle (AV.s true (rpC (x,y,undV d))) (AV.s true (rpC (x,y,undV d)))):=by kernel_rfl
theorem pAt_vc (x y d:Int):vc Tryz.prog (lk gUn) Tryz.f9.ntmps [] (Tryz.f9.body.getD .skip) ⟨entryS [.s true (dotC x y d)] 0,[]⟩ (retVC Tryz.prog Tryz.f9.results.toList (.s true (ptC (Rat.divInt x (undV d),Rat.divInt y (undV d)) 4)))=(I64s x∧I64s (undV d)∧undV d≠(0:Int)∧I64s y∧I64s (undV d)∧undV d≠(0:Int)∧AVle (AV.s true (qsC [(Rat.divInt x (undV d),4),(Rat.divInt y (undV d),4)])) (AV.s true (ptC (Rat.divInt x (undV d),Rat.divInt y (undV d)) 4))):=by kernel_rfl
theorem undV_wrap (d:Int):IntKind.wrap IntKind.i64 (1+IntKind.wrap IntKind.i64 (Int.tmod (IntKind.wrap IntKind.u64 d) 60))=undV d:=by
 have e:IntKind.u64.wrap d=d%18446744073709551616:=by simp[IntKind.wrap,IntKind.bits,IntKind.signed]
 rw[e,Int.tmod_eq_emod_of_nonneg (by omega),IntKind.wrap_i64,IntKind.wrap_i64]
 unfold undV
 omega
theorem undV_s (d:Int):I64s (undV d):=by have:=undV_pos d;unfold I64s;omega
set_option maxRecDepth 100000 in
theorem und_ok (B:Nat):RunOK Tryz.prog False B 34 (runC undS):=by
 refine fn_specR (c:=Tryz.f34.body.getD .skip) (Γ :=lk []) (fun _ _ _ h=>by cases h) (by kernel_rfl) Tryz.func34 (by kernel_rfl) (by kernel_rfl) ?_ B
 intro pvs av ps h hp
 unfold undS at h
 split at h
 ·rename_i x y d
  cases h
  obtain⟨_⟩:=hp
  refine⟨[.s true (dotC x y d)],[],AvsLe.refl _,by rw[Tryz.ntmps34];simp,?_⟩
  rw[und_vc]
  exact⟨by decide,AVle.ik (undV_wrap d)⟩
 ·cases h
theorem gUn_ok:∀ p∈gUn,∀ B,RunOK Tryz.prog False B p.1 p.2:=ctx_cons und_ok (ctx_cons (jof_ok False) (ctx_cons fofC_ok fun p hp=>by cases hp))
set_option maxRecDepth 100000 in
theorem rAt_ok (B:Nat):RunOK Tryz.prog False B 10 (runC rAtS):=by
 refine fn_specR (c:=Tryz.f10.body.getD .skip) (Γ :=lk gUn) (ctx_ok gUn_ok) (by kernel_rfl) Tryz.func10 (by kernel_rfl) (by kernel_rfl) ?_ B
 intro pvs av ps h hp
 unfold rAtS at h
 split at h
 ·rename_i x y d
  cases h
  obtain⟨h1,h2,_⟩:=hp
  refine⟨[.s true (dotC x y d)],[],AvsLe.refl _,by rw[Tryz.ntmps10];simp,?_⟩
  rw[rAt_vc]
  exact⟨h1,h2,undV_s d,AVle.refl _⟩
 ·cases h
set_option maxRecDepth 100000 in
theorem pAt_ok (B:Nat):RunOK Tryz.prog False B 9 (runC pAtS):=by
 refine fn_specR (c:=Tryz.f9.body.getD .skip) (Γ :=lk gUn) (ctx_ok gUn_ok) (by kernel_rfl) Tryz.func9 (by kernel_rfl) (by kernel_rfl) ?_ B
 intro pvs av ps h hp
 unfold pAtS at h
 split at h
 ·rename_i x y d
  cases h
  obtain⟨h1,h2,_⟩:=hp
  refine⟨[.s true (dotC x y d)],[],AvsLe.refl _,by rw[Tryz.ntmps9];simp,?_⟩
  rw[pAt_vc]
  have:=undV_pos d
  exact⟨h1,undV_s d,by omega,h2,undV_s d,by omega,AVle.refl _⟩
 ·cases h
def pq0:PQ:=⟨0,0,0,0,0,0⟩
def pqE (l:List PQ):Nat→List Cell:=fun i=>[.v (.int .i64 (l.getD i pq0).ax),.v (.int .i64 (l.getD i pq0).ay),.v (.int .i64 (l.getD i pq0).ad),.v (.int .i64 (l.getD i pq0).cx),.v (.int .i64 (l.getD i pq0).cy),.v (.int .i64 (l.getD i pq0).cd)]
def pqAt:List Cell→PQ
 |[.v (.int _ a),.v (.int _ b),.v (.int _ c),.v (.int _ d),.v (.int _ e),.v (.int _ f)]=>⟨a,b,c,d,e,f⟩
 |_=>pq0
def pqL (n:Nat) (e:Nat→List Cell):List PQ:=(List.range n).map fun i=>pqAt (e i)
theorem pqL_len (n:Nat) (e:Nat→List Cell):(pqL n e).length=n:=by simp[pqL]
theorem pqL_E (l:List PQ):pqL l.length (pqE l)=l:=by
 apply List.ext_getElem?
 intro i
 unfold pqL
 rw[List.getElem?_map]
 rcases Nat.lt_or_ge i l.length with hi | hi
 ·rw[List.getElem?_range hi,List.getElem?_eq_getElem hi]
  show some (pqAt (pqE l i))=some l[i]
  simp only[pqAt,pqE,List.getD,List.getElem?_eq_getElem hi,Option.getD_some]
 ·rw[List.getElem?_eq_none (by simpa using hi),List.getElem?_eq_none hi]
  rfl
def sqOf (p:PQ):Sq:=((Rat.divInt p.ax (undV p.ad),Rat.divInt p.ay (undV p.ad)),Rat.divInt p.cx (undV p.cd),Rat.divInt p.cy (undV p.cd))
def rsOf (p:PQ):Rp × Rp:=((p.ax,p.ay,undV p.ad),p.cx,p.cy,undV p.cd)
def sqsOf (l:List PQ):List Sq:=l.map sqOf
def rssOf (l:List PQ):List (Rp × Rp):=l.map rsOf
def rs0:Rp × Rp:=((0,0,0),0,0,0)
def rsE (l:List (Rp × Rp)):Nat→List Cell:=fun i=>rsC (l.getD i rs0)
def segs_inv (l:List PQ):LInv:=⟨Nat,fun k=>k≤l.length∧k≤14,fun k=>⟨[(0,.s false [.row 6 l.length (pqE l)]),(4,.s false [.hd 900]),(5,.s false [.hd 901]),(6,.s false [.v (.int .i64 (k:Nat))])],[(900,.row 41 16 k (sgE (sqsOf l) 4)),(901,.row 60 12 k (rsE (rssOf l)))]⟩,fun k=>l.length-k,[.nil 4 900 41 16,.nil 5 901 60 12],[.ren 32 900,.ren 48 901],none⟩
def gSg:List (Nat × Run):=[(10,runC rAtS),(9,runC pAtS)]
theorem gSg_ok:∀ p∈gSg,∀ B,RunOK Tryz.prog False B p.1 p.2:=ctx_cons rAt_ok (ctx_cons pAt_ok fun p hp=>by cases hp)
def segsV (l:List PQ):AV:= .tup [(false,[.row 16 (l.take 14).length (sgE (sqsOf (l.take 14)) 4)]),(false,[.row 12 (l.take 14).length (rsE (rssOf (l.take 14)))])]
theorem segs_vc (l:List PQ):vc Tryz.prog (lk gSg) Tryz.f4.ntmps [(4,segs_inv l)] (Tryz.f4.body.getD .skip) ⟨entryS [.s false [.row 6 l.length (pqE l)]] 0,[]⟩ (retVC Tryz.prog Tryz.f4.results.toList (segsV l))=(let k1:=(↑(List.length l):Int);let k4:=List.take 14 l;let k7:=(false,[Cell.row 16 (List.length k4) (sgE (sqsOf k4) 4)]);let k8:=sgE (sqsOf l) 4;let k9:=(0:Int);let k11:=rssOf l;let k12:=AV.s false [Cell.hd 900];let k13:=AV.s false [Cell.hd 901];let k14:=fun (zz:Nat)=>(↑zz:Int);let k0:=fun (zz:Nat)=>(List.getD l (Int.toNat (k14 zz)) pq0);let k2:=fun (zz:Nat)=>(PQ.ax (k0 zz),PQ.ay (k0 zz),undV (PQ.ad (k0 zz)));let k3:=fun (zz:Nat)=>(PQ.cx (k0 zz),PQ.cy (k0 zz),undV (PQ.cd (k0 zz)));let k5:=fun (zz:Nat)=>(Rat.divInt (PQ.ax (k0 zz)) (undV (PQ.ad (k0 zz))),Rat.divInt (PQ.ay (k0 zz)) (undV (PQ.ad (k0 zz))));let k6:=fun (zz:Nat)=>(Rat.divInt (PQ.cx (k0 zz)) (undV (PQ.cd (k0 zz))),Rat.divInt (PQ.cy (k0 zz)) (undV (PQ.cd (k0 zz))));let k10:=fun (zz:Nat)=>(AV.s false [Cell.v (Value.int IntKind.i64 (k14 zz))]);(Exists fun (i:Nat)=>(i≤List.length l∧i≤14)∧(SmA (AV.s false [Cell.row 6 (List.length l) fun (a:Nat)=>pqE l a])∧SmA k12∧SmA k13∧AVle (AV.s false [Cell.v (Value.int IntKind.i64 k9)]) (k10 i)∧True)∧ABle (ABlk.row 41 16 0 fun (_x:Nat)=>[]) (ABlk.row 41 16 i k8)∧ABle (ABlk.row 60 12 0 fun (_x:Nat)=>[]) (ABlk.row 60 12 i fun (a:Nat)=>rsE k11 a)∧True)∧∀ (i:Nat),i≤List.length l∧i≤14→(decide ((k14 i)<k1)=true→decide ((k14 i)<k1)=true∧(decide ((k14 i)<(14:Int))=true→(k9≤(k14 i)∧(k14 i)<k1)∧I64s (PQ.ax (k0 i))∧I64s (PQ.ay (k0 i))∧(k9≤(k14 i)∧(k14 i)<k1)∧I64s (PQ.cx (k0 i))∧I64s (PQ.cy (k0 i))∧(0≤1∧(i+1)*256≤140737488355328)∧(k9≤(k14 i)∧(k14 i)<k1)∧I64s (PQ.ax (k0 i))∧I64s (PQ.ay (k0 i))∧(k9≤(k14 i)∧(k14 i)<k1)∧I64s (PQ.cx (k0 i))∧I64s (PQ.cy (k0 i))∧(0≤1∧(i+1)*192≤140737488355328)∧Exists fun (i':Nat)=>(i'≤List.length l∧i'≤14)∧List.length l-i'<List.length l-i∧(SmA (AV.s false [Cell.row 6 (List.length l) fun (a:Nat)=>pqE l a])∧SmA k12∧SmA k13∧AVle (AV.s false [Cell.v (Value.int IntKind.i64 (IntKind.wrap IntKind.i64 ((k14 i)+(1:Int))))]) (k10 i')∧True)∧ABle (ABlk.row 41 16 (i+1) fun (j:Nat)=>if j<i then (sqC (List.getD (sqsOf l) j sq0) 4) else List.getD [(qsC [(Prod.fst (k5 i),4),(Prod.snd (k5 i),4),(Prod.fst (k6 i),4),(Prod.snd (k6 i),4)])] (j-i) []) (ABlk.row 41 16 i' k8)∧ABle (ABlk.row 60 12 (i+1) fun (j:Nat)=>if j<i then rsE k11 j else List.getD [[Cell.v (Value.int IntKind.i64 (Int.sign (Prod.fst (k2 i)))),Cell.m (Int.natAbs (Prod.fst (k2 i))),Cell.v (Value.int IntKind.i64 (Int.sign (Prod.fst (PQ.ay (k0 i),undV (PQ.ad (k0 i)))))),Cell.m (Int.natAbs (Prod.fst (Prod.snd (k2 i)))),Cell.v (Value.int IntKind.i64 (Int.sign (Prod.snd (PQ.ay (k0 i),undV (PQ.ad (k0 i)))))),Cell.m (Int.natAbs (Prod.snd (Prod.snd (k2 i)))),Cell.v (Value.int IntKind.i64 (Int.sign (Prod.fst (k3 i)))),Cell.m (Int.natAbs (Prod.fst (k3 i))),Cell.v (Value.int IntKind.i64 (Int.sign (Prod.fst (PQ.cy (k0 i),undV (PQ.cd (k0 i)))))),Cell.m (Int.natAbs (Prod.fst (Prod.snd (k3 i)))),Cell.v (Value.int IntKind.i64 (Int.sign (Prod.snd (PQ.cy (k0 i),undV (PQ.cd (k0 i)))))),Cell.m (Int.natAbs (Prod.snd (Prod.snd (k3 i))))]] (j-i) []) (ABlk.row 60 12 i' fun (a:Nat)=>rsE k11 a)∧True)∧(decide ((k14 i)<(14:Int))=false→AVle (AV.tup [(false,[Cell.row 16 i k8]),(false,[Cell.row 12 i fun (a:Nat)=>rsE k11 a])]) (AV.tup [k7,(false,[Cell.row 12 (List.length k4) fun (a:Nat)=>rsE (rssOf k4) a])])))∧(decide ((k14 i)<k1)=false→decide ((k14 i)<k1)=false∧AVle (AV.tup [(false,[Cell.row 16 i k8]),(false,[Cell.row 12 i fun (a:Nat)=>rsE k11 a])]) (AV.tup [k7,(false,[Cell.row 12 (List.length k4) fun (a:Nat)=>rsE (rssOf k4) a])]))):=by kernel_rfl
set_option maxRecDepth 100000 in
theorem segs_true (l:List PQ) (hl:∀ p∈l,p.ok):vc Tryz.prog (lk gSg) Tryz.f4.ntmps [(4,segs_inv l)] (Tryz.f4.body.getD .skip) ⟨entryS [.s false [.row 6 l.length (pqE l)]] 0,[]⟩ (retVC Tryz.prog Tryz.f4.results.toList (segsV l)):=by
 rw[segs_vc]
 simp only[SmA,av_refl,true_and,and_true,decide_eq_true_eq,decide_eq_false_iff_not,Int.toNat_natCast]
 have g1:∀ j,(sqsOf l).getD j sq0=if j<l.length then sqOf (l.getD j pq0) else sq0:=fun j=>by
  unfold sqsOf
  by_cases h:j<l.length
  ·simp[List.getD,h]
  ·simp[List.getD,h]
 have g2:∀ j,(rssOf l).getD j rs0=if j<l.length then rsOf (l.getD j pq0) else rs0:=fun j=>by
  unfold rssOf
  by_cases h:j<l.length
  ·simp[List.getD,h]
  ·simp[List.getD,h]
 have sg1:∀ {s t:Sq},s=t→CsLe (sqC s 4) (sqC t 4):=fun h=>by subst h;exact CsLe.refl _
 have sg2:∀ {s t:Rp × Rp},s=t→CsLe (rsC s) (rsC t):=fun h=>by subst h;exact CsLe.refl _
 have okL:∀ k,k<l.length→(l.getD k pq0).ok:=fun k hk=>by
  have:l.getD k pq0=l[k]:=by simp[List.getD,hk]
  rw[this]
  exact hl _ (List.getElem_mem hk)
 have fin:∀ k,k≤l.length→k≤14→¬ (k<l.length∧k<14)→AVle (.tup [(false,[.row 16 k (sgE (sqsOf l) 4)]),(false,[.row 12 k fun a=>rsE (rssOf l) a])]) (segsV l):=by
  intro k h1 h2 h3
  have hk:(l.take 14).length=k:=by rw[List.length_take];omega
  unfold segsV
  refine AVle.tup rfl fun i p q hp hq=> ?_
  match i,hp,hq with
  |0,hp,hq=>
   cases hp;cases hq
   refine AVle.one (CLe.row hk.symm (fun j hj=>sg1 ?_) fun j hj=>⟨rfl,rfl⟩)
   unfold sqsOf
   rw[List.map_take,List.getD,List.getD,List.getElem?_take,if_pos (by omega)]
  |1,hp,hq=>
   cases hp;cases hq
   refine AVle.one (CLe.row hk.symm (fun j hj=>sg2 ?_) fun j hj=>⟨rfl,rfl⟩)
   unfold rssOf
   rw[List.map_take,List.getD,List.getD,List.getElem?_take,if_pos (by omega)]
 refine⟨⟨0,⟨by omega,by omega⟩,AVle.ik rfl,ABle.row rfl (fun j hj=>absurd hj (Nat.not_lt_zero _)) (fun _ _=>rfl),ABle.row rfl (fun j hj=>absurd hj (Nat.not_lt_zero _)) (fun _ _=>rfl)⟩,fun k ⟨h1,h2⟩=>⟨fun h3=>⟨h3,fun h4=> ?_,fun h4=>fin k h1 h2 (by omega)⟩,fun h3=> ?_⟩⟩
 ·have hk:k<l.length:=by omega
  obtain⟨o1,o2,_,o4,o5,_⟩:=okL k hk
  refine⟨by omega,o1,o2,by omega,o4,o5,by omega,by omega,o1,o2,by omega,o4,o5,by omega,k+1,⟨by omega,by omega⟩,by omega,AVle.ik (by rw[IntKind.wrap_i64];omega),ABle.row rfl (fun j hj=> ?_) (fun _ _=>rfl),ABle.row rfl (fun j hj=> ?_) (fun _ _=>rfl)⟩
  ·by_cases e:j<k
   ·rw[if_pos e];exact CsLe.refl _
   ·obtain rfl:j=k:=by omega
    rw[if_neg e,Nat.sub_self]
    exact sg1 (s:=sqOf (l.getD j pq0)) (by rw[g1,if_pos hk])
  ·by_cases e:j<k
   ·rw[if_pos e];exact CsLe.refl _
   ·obtain rfl:j=k:=by omega
    rw[if_neg e,Nat.sub_self]
    exact sg2 (s:=rsOf (l.getD j pq0)) (by rw[g2,if_pos hk])
 ·first
  |exact fin k h1 h2 (by omega)
  |exact⟨h3,fin k h1 h2 (by omega)⟩
def segsS:Spec
 |[.o (.s false [.row 6 n e])]=>some (segsV (pqL n e),[∀ i,i<n→CsLe (e i) (pqE (pqL n e) i),∀ p∈pqL n e,p.ok])
 |_=>none
theorem CLe.rowC {sz n n':Nat} {e e':Nat→List Cell} (h:n=n') (k:∀ i,i<n→CsLe (e i) (e' i)) (hcl:∀ i,i<n→(e' i).all Cell.cl=true):CLe (.row sz n e) (.row sz n' e'):=by
 refine⟨fun G F w v hv=> ?_⟩
 have hv':COk F w (.row sz n e) v:=hv
 have h2:=row_le' hv' k hcl
 rw[h] at h2
 exact GOk.of h2
set_option maxRecDepth 100000 in
theorem segs_ok (B:Nat):RunOK Tryz.prog False B 4 (runC segsS):=by
 refine fn_specR (c:=Tryz.f4.body.getD .skip) (ctx_ok gSg_ok) (by kernel_rfl) Tryz.func4 (by kernel_rfl) (by kernel_rfl) ?_ B
 intro pvs av ps h hp
 unfold segsS at h
 split at h
 ·rename_i n e
  cases h
  obtain⟨h1,h2,_⟩:=hp
  exact⟨[.s false [.row 6 (pqL n e).length (pqE (pqL n e))]],[(4,segs_inv (pqL n e))],AvsLe.cons (AVle.one (CLe.rowC (pqL_len n e).symm h1 fun _ _=>rfl)) AvsLe.nil,by rw[Tryz.ntmps4];simp,segs_true _ h2⟩
 ·cases h
end Go.Proofs.YtmagoiniahpofaaGreat
namespace Go.Proofs.YtmagoiniahpofaaGreat
open Go Go.ChangeShapes Go.WideShapes Go.ChangeAt Go.RowKit
theorem getD_some' {α:Type} {l:List α} {j:Nat} {d:α} (h:j<l.length):l[j]? =some (l.getD j d):=by simp[List.getD,h]
section
variable {H:Type} {enc:TypeId × Value→H} {W:World}
set_option maxRecDepth 100000 in
theorem open_pqs {v:Value} {d:DataW H} {p:List MemPlace} {r:Reach} {b0:Nat} (hv:Value.okWide Tryz.prog W r b0 22 v) (h:DataW.Trod enc Tryz.prog W 0 (fun _=>true) true 22 v d p):∃ l:List PQ,PqIs W v l∧COk (fun g=>g<W.heap.size) W (.row 6 l.length (pqE l)) v:=by
 obtain⟨fuel,hf⟩:=h
 obtain⟨a0,len0,cap0,rfl⟩:=okWide_slice Tryz.underlying22 hv
 have hone:(Value.slice a0 len0 cap0).cells.toList=[.slice a0 len0 cap0]:=rfl
 rw[hone] at hf
 rcases DataW.trod_slice Tryz.underlying22 hf with ⟨e2,_⟩ | ⟨a,len,cap,elems,rest,n2,rfl,e2,e3,_,hlc,hcm,hel,hat,_,_⟩
 ·cases e2
  exact⟨[],⟨by simp,(fun x hx=>by cases hx),none,0,rfl,.inl rfl⟩,.row0⟩
 ·cases e2
  cases e3
  rw[cellsPair] at hat
  obtain⟨l,hll,hq⟩:=choose_list len0 (fun i (t:PQ)=>W.cells? 0 (a.add (i*6)) 6=some t.cells∧t.ok) (by
   intro i hi
   have h1:=hat i hi
   rw[List.getElem?_eq_getElem (by omega)] at h1
   obtain⟨csi,h2,h3⟩:=Option.bind_eq_some_iff.1 h1
   obtain⟨t,rfl,h5⟩:=open_pair n2 csi _ h3
   exact⟨t,h2,h5⟩)
  have hP:PqIs W (.slice (some a) len0 cap0) l:=by
   refine⟨by unfold maxLen at hcm;omega,fun x hx=> ?_,some a,cap0,by rw[hll],?_⟩
   ·obtain⟨i,hi⟩:=List.getElem?_of_mem hx
    exact (hq i x hi).2
   ·cases l with
    |nil=>exact .inl rfl
    |cons x0 l0=>
     obtain⟨h2,_⟩:=hq 0 x0 rfl
     obtain⟨_,_,h3⟩:=World.cells?_some h2
     have h4:=h3 0 (by decide)
     rw[add_add,Nat.zero_mul,Nat.add_zero] at h4
     have h5:W.cell? a=some (.int .i64 x0.ax):=h4
     obtain⟨g,o,rfl,hg⟩:=addr_plain h5
     refine .inr ⟨g,o,rfl,hg,fun i p hp j c hj=> ?_⟩
     obtain⟨k1,_⟩:=hq i p hp
     rw[add_none] at k1
     obtain⟨_,_,k6⟩:=World.cells?_some k1
     have hj6:j<6:=(List.getElem?_eq_some_iff.1 hj).1
     have:=k6 j hj6
     rw[add_none] at this
     rw[this,hj]
  refine⟨l,hP,?_⟩
  obtain⟨_,_,a1,cap1,e1,h1⟩:=hP
  cases e1
  rcases h1 with rfl | ⟨g,o,ea,hg,hc⟩
  ·exact .row0
  ·cases ea
   refine .row (fun i j=>(l.getD i pq0).cells.getD j undef) hg (by omega) (fun i _=>rfl) (fun i j hi hj=> ?_) (fun i j c hi hc=> ?_)
   ·have h2:l[i]? =some (l.getD i pq0):=by simp[List.getD,hi]
    refine hc i _ h2 j _ ?_
    have hj':j<(l.getD i pq0).cells.length:=hj
    exact getD_some' hj'
   ·have e6:pqE l i=(l.getD i pq0).cells.map Cell.v:=rfl
    rw[e6,List.getElem?_map] at hc
    cases h3:(l.getD i pq0).cells[j]? with
    |none=>rw[h3] at hc;cases hc
    |some u=>
     rw[h3] at hc
     cases hc
     have:(l.getD i pq0).cells.getD j undef=u:=by rw[List.getD,h3];rfl
     rw[this]
     have hu:u∈(l.getD i pq0).cells:=List.mem_of_getElem? h3
     refine .v u ?_
     simp only[PQ.cells,List.mem_cons,List.not_mem_nil,or_false] at hu
     rcases hu with rfl | rfl | rfl | rfl | rfl | rfl<;>rfl
end
theorem pq_arg {W:World} {G:Nat→GV} {l:List PQ} {v:Value} (h:COk (fun g=>g<W.heap.size) W (.row 6 l.length (pqE l)) v):AV.ok (GOk G (fun g=>g<W.heap.size) W) (.s false [.row 6 l.length (pqE l)]) v:=one_ok (GOk.of h)
end Go.Proofs.YtmagoiniahpofaaGreat
