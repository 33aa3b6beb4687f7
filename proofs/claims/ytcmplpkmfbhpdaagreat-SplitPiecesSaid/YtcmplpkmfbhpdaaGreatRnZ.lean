import Derived.Test.YtcmplpkmfbhpdaaGreatGC
import Derived.Test.YtcmplpkmfbhpdaaGreatRnX
import Derived.Test.YtcmplpkmfbhpdaaGreatKnX
import Derived.WideShapes
import Derived.ChangeShapes
import Derived.Deep.Strs
namespace Go.Proofs.YtcmplpkmfbhpdaaGreat
open Go Go.ChangeShapes Go.WideShapes Go.ChangeAt Go.RowKit
theorem aky {α:Type} (n:Nat) (p:Nat->α->Prop) (h:∀ i,i<n->∃ x,p i x):∃ l:List α,l.length=n/\∀ i x,l[i]? =some x->p i x:=by
 induction n with
 |zero=>exact⟨[],rfl,λi x e=>by simp at e⟩
 |succ n ih=>
  obtain⟨l,hl,hp⟩:=ih λi hi=>h i (by omega);obtain⟨x,hx⟩:=h n (by omega);refine⟨l++[x],by simp[hl],λi y e=> ?_⟩;by_cases hi:i<n
  ·rw[List.getElem?_append_left (by omega)] at e;exact hp i y e
  ·have hlt:i<(l++[x]).length:=(List.getElem?_eq_some_iff.1 e).1;simp at hlt;obtain rfl:i=n:=by omega
   rw[List.getElem?_append_right (by omega),hl,Nat.sub_self] at e;cases e;exact hx
theorem al4 (g o j:Nat):(⟨g,o,none⟩:Addr).add j=⟨g,o+j,none⟩:=by
 unfold Addr.add;split
 ·rename_i h;subst h;rfl
 ·rfl
theorem add_add (a:Addr) (i j:Nat):(a.add i).add j=a.add (i+j):=Deep.add_add a i j
theorem amQ {w:World} {a:Addr} {u:Value} (h:w.cell? a=some u):∃ g o,a=⟨g,o,none⟩/\g<w.heap.size:=by
 obtain⟨g,o,s⟩:=a;have hlt:=World.block_lt_of_cell? _ _ h;unfold World.cell? at h;split at h
 ·cases s with
  |none=>exact⟨g,o,rfl,hlt⟩
  |some s=>simp at h
 ·cases h
def afe (a:Int):Prop:= -9223372036854775808<=a/\a<=9223372036854775807
theorem ahI {n:Int} (h:(Lit.int .i64 n).wf=true):afe n:=by
 unfold Lit.wf at h;simp[IntKind.min,IntKind.max,IntKind.signed,IntKind.bits] at h;exact⟨by omega,by omega⟩
structure PQ where
 ax:Int
 ay:Int
 ad:Int
 cx:Int
 cy:Int
 cd:Int
def PQ.cells (p:PQ):List Value:=[.int .i64 p.ax,.int .i64 p.ay,.int .i64 p.ad,.int .i64 p.cx,.int .i64 p.cy,.int .i64 p.cd]
def PQ.ok (p:PQ):Prop:=afe p.ax/\afe p.ay/\afe p.ad/\afe p.cx/\afe p.cy/\afe p.cd
def aAz (w:World) (v:Value) (l:List PQ):Prop:=
 l.length<=9223372036854775807/\(∀ p∈l,p.ok)/\∃ a cap,v= .slice a l.length cap/\(l=[]\/∃ g o,a=some ⟨g,o,none⟩/\g<w.heap.size/\∀ i p,l[i]? =some p->∀ j c,p.cells[j]? =some c->w.cell? ⟨g,o+i*6+j,none⟩=some c)
theorem ah5:Tryz.prog.cellsOf 3 =1:=by kernel_rfl
theorem al3:Tryz.prog.cellsOf 111 =3:=by kernel_rfl
theorem ajg:Tryz.prog.cellsOf 113 =6:=by kernel_rfl
section
variable {H:Type} {enc:TypeId × Value->H} {W:World}
set_option maxRecDepth 100000 in
theorem alp (fuel:Nat) (c0 c1 c2:Value) (x:DataW H × List MemPlace) (h:DataW.trod enc Tryz.prog W 0 (λ_=>true) true fuel 111 [c0,c1,c2]=some x) :
  ∃ a b d:Int,c0= .int .i64 a/\c1= .int .i64 b/\c2= .int .i64 d/\afe a/\afe b/\afe d:=by
 obtain⟨xs,n1,rfl,rfl,hl,hlen,hf⟩:=DataW.trod_struct Tryz.underlying111 h;match xs,hlen with
 |[y0,y1,y2],_=>
  have f0:DataW.trod enc Tryz.prog W 0 (λ_=>true) true n1 3 (([c0,c1,c2].drop 0).take (Tryz.prog.cellsOf 3))=some y0:=hf 0 _ rfl;rw[ah5] at f0;have f1:DataW.trod enc Tryz.prog W 0 (λ_=>true) true n1 3 (([c0,c1,c2].drop 1).take (Tryz.prog.cellsOf 3))=some y1:=hf 1 _ rfl;rw[ah5] at f1;have f2:DataW.trod enc Tryz.prog W 0 (λ_=>true) true n1 3 (([c0,c1,c2].drop 2).take (Tryz.prog.cellsOf 3))=some y2:=hf 2 _ rfl;rw[ah5] at f2;have g0:DataW.trod enc Tryz.prog W 0 (λ_=>true) true n1 3 [c0]=some y0:=f0;have g1:DataW.trod enc Tryz.prog W 0 (λ_=>true) true n1 3 [c1]=some y1:=f1;have g2:DataW.trod enc Tryz.prog W 0 (λ_=>true) true n1 3 [c2]=some y2:=f2;obtain⟨a,e0,_,w0⟩:=DataW.trod_int Tryz.underlying3 g0;obtain⟨b,e1,_,w1⟩:=DataW.trod_int Tryz.underlying3 g1;obtain⟨d,e2,_,w2⟩:=DataW.trod_int Tryz.underlying3 g2;cases e0;cases e1;cases e2;exact⟨a,b,d,rfl,rfl,rfl,ahI w0,ahI w1,ahI w2⟩
theorem azP {α:Type} {cs:List α} (h:cs.length=6):∃ c0 c1 c2 c3 c4 c5,cs=[c0,c1,c2,c3,c4,c5]:=by
 match cs,h with
 |[a,b,c,d,e,f],_=>exact⟨a,b,c,d,e,f,rfl⟩
set_option maxRecDepth 100000 in
theorem ao8 (fuel:Nat) (cs:List Value) (x:DataW H × List MemPlace) (h:DataW.trod enc Tryz.prog W 0 (λ_=>true) true fuel 113 cs=some x):∃ p:PQ,cs=p.cells/\p.ok:=by
 obtain⟨xs,n1,rfl,rfl,hl,hlen,hf⟩:=DataW.trod_struct Tryz.underlying113 h;rw[ajg] at hl;match xs,hlen with
 |[y0,y1],_=>
  have f0:DataW.trod enc Tryz.prog W 0 (λ_=>true) true n1 111 ((cs.drop 0).take (Tryz.prog.cellsOf 111))=some y0:=hf 0 _ rfl;rw[al3] at f0;have f1:DataW.trod enc Tryz.prog W 0 (λ_=>true) true n1 111 ((cs.drop 3).take (Tryz.prog.cellsOf 111))=some y1:=hf 1 _ rfl;rw[al3] at f1;obtain⟨c0,c1,c2,c3,c4,c5,rfl⟩:=azP hl;have g0:DataW.trod enc Tryz.prog W 0 (λ_=>true) true n1 111 [c0,c1,c2]=some y0:=f0;have g1:DataW.trod enc Tryz.prog W 0 (λ_=>true) true n1 111 [c3,c4,c5]=some y1:=f1;obtain⟨a,b,d,rfl,rfl,rfl,h1,h2,h3⟩:=alp n1 _ _ _ _ g0;obtain⟨a',b',d',rfl,rfl,rfl,k1,k2,k3⟩:=alp n1 _ _ _ _ g1;exact⟨⟨a,b,d,a',b',d'⟩,rfl,h1,h2,h3,k1,k2,k3⟩
end
end Go.Proofs.YtcmplpkmfbhpdaaGreat
namespace Go.Proofs.YtcmplpkmfbhpdaaGreat
open Go Go.RowKit
def rpC (p:Int × Int × Int):List aaa:=[.v (.int .i64 p.1.sign),.m p.1.natAbs,.v (.int .i64 p.2.1.sign),.m p.2.1.natAbs,.v (.int .i64 p.2.2.sign),.m p.2.2.natAbs]
abbrev Rp:=Int × Int × Int
def rsC (s:Rp × Rp):List aaa:=rpC s.1++rpC s.2
def acC (d:Int):Int:=1+d%18446744073709551616%60
theorem aeg (d:Int):0<acC d/\acC d<=60:=by unfold acC;omega
def avO (x y d:Int):List aaa:=[.v (.int .i64 x),.v (.int .i64 y),.v (.int .i64 d)]
def ayU:abF
 |[.o (.s true [.v (.int .i64 _x),.v (.int .i64 _y),.v (.int .i64 d)])]=>some (.s false [.v (.int .i64 (acC d))],[])
 |_=>none
def ay2:abF
 |[.o (.s true [.v (.int .i64 x),.v (.int .i64 y),.v (.int .i64 d)])]=>some (.s true (rpC (x,y,acC d)),[abB x,abB y])
 |_=>none
def ay8:abF
 |[.o (.s true [.v (.int .i64 x),.v (.int .i64 y),.v (.int .i64 d)])]=>some (.s true (ptC (Rat.divInt x (acC d),Rat.divInt y (acC d)) 4),[abB x,abB y])
 |_=>none
def aAq:Run:=aeb λavs=>match avs with
 |[.s false [.v (.int .i64 x)],.s false [.v (.int .i64 y)]]=>some (.tup [(true,qC (Rat.divInt x y) 4),(false,[.v (.int .i64 0)])],[abB x,abB y,y≠0])
 |_=>none
theorem aum {x y:Int} (hx:abB x) (hy:abB y) (h0:y≠0):rl (Rat.divInt x y)<=4:=by
 have:=akl (k:=2) h0 (aga hx) (aga hy);unfold acr at this;unfold rl;omega
theorem avm (B:Nat):aai Tryz.prog False B 15 aAq:=by
 refine aa6 (by kernel_rfl) λavs spec ps hr hp G F w vs hvs=> ?_;split at hr
 ·rename_i x y;cases hr;obtain⟨h1,h2,h3,_⟩:=hp;match vs,hvs with
  |[a,b],hvs=>
   have ea:=(abm (aal (hvs.2 0 _ a rfl rfl))).1;have eb:=(abm (aal (hvs.2 1 _ b rfl rfl))).1;subst ea eb;refine (axx x y w h1.1 h1.2 h2.1 h2.2 h3).mono ?_;rintro e w' ⟨r,rfl,h4,h5⟩;exact⟨_,rfl,λF'=>ajH (avY h4 (aum h1 h2 h3)) (aaG (GOk.of (.v _ rfl))),⟨h5,λh=>h.elim⟩⟩
  |[],hvs=>cases hvs.1
  |[_],hvs=>cases hvs.1
  |_::_::_::_,hvs=>cases hvs.1
 ·cases hr
def gUn:List (Nat × Run):=[(109,aaF ayU),(110,aaF ayE),(15,aAq)]
theorem awW (x y d:Int):vc Tryz.prog (lk []) Tryz.f109.ntmps [] (Tryz.f109.body.getD .skip) ⟨aao [.s true (avO x y d)] 0,[]⟩ (aaH Tryz.prog Tryz.f109.results.toList (.s false [.v (.int .i64 (acC d))]))=((60:Int)≠(0:Int)/\aac (AV.s false [aaa.v (Value.int IntKind.i64 (IntKind.wrap IntKind.i64 ((1:Int)+IntKind.wrap IntKind.i64 (Int.tmod (IntKind.wrap IntKind.u64 d) (60:Int)))))]) (AV.s false [aaa.v (Value.int IntKind.i64 (acC d))])):=by kernel_rfl
theorem aw7 (x y d:Int):vc Tryz.prog (lk gUn) Tryz.f56.ntmps [] (Tryz.f56.body.getD .skip) ⟨aao [.s true (avO x y d)] 0,[]⟩ (aaH Tryz.prog Tryz.f56.results.toList (.s true (rpC (x,y,acC d))))=(abB x/\abB y/\abB (acC d)/\aac (AV.s true (rpC (x,y,acC d))) (AV.s true (rpC (x,y,acC d)))):=by kernel_rfl
theorem axl (x y d:Int):vc Tryz.prog (lk gUn) Tryz.f55.ntmps [] (Tryz.f55.body.getD .skip) ⟨aao [.s true (avO x y d)] 0,[]⟩ (aaH Tryz.prog Tryz.f55.results.toList (.s true (ptC (Rat.divInt x (acC d),Rat.divInt y (acC d)) 4)))=(abB x/\abB (acC d)/\acC d≠(0:Int)/\abB y/\abB (acC d)/\acC d≠(0:Int)/\aac (AV.s true (qsC [(Rat.divInt x (acC d),4),(Rat.divInt y (acC d),4)])) (AV.s true (ptC (Rat.divInt x (acC d),Rat.divInt y (acC d)) 4))):=by kernel_rfl
theorem aoK (d:Int):IntKind.wrap IntKind.i64 (1+IntKind.wrap IntKind.i64 (Int.tmod (IntKind.wrap IntKind.u64 d) 60))=acC d:=by
 have e:IntKind.u64.wrap d=d%18446744073709551616:=by simp[IntKind.wrap,IntKind.bits,IntKind.signed]
 rw[e,Int.tmod_eq_emod_of_nonneg (by omega),IntKind.wrap_i64,IntKind.wrap_i64];unfold acC;omega
theorem ane (d:Int):abB (acC d):=by have:=aeg d;unfold abB;omega
set_option maxRecDepth 100000 in
theorem awX (B:Nat):aai Tryz.prog False B 109 (aaF ayU):=by
 refine aam (c:=Tryz.f109.body.getD .skip) (Γ :=lk []) (λ_ _ _ h=>by cases h) (by kernel_rfl) Tryz.func109 (by kernel_rfl) (by kernel_rfl) ?_ B;intro pvs av ps h hp;unfold ayU at h;split at h
 ·rename_i x y d;cases h;obtain⟨_⟩:=hp;refine⟨[.s true (avO x y d)],[],aaj.refl _,by rw[Tryz.ntmps109];simp,?_⟩;rw[awW];exact⟨by decide,aac.ik (aoK d)⟩
 ·cases h
theorem asM:∀ p∈gUn,∀ B,aai Tryz.prog False B p.1 p.2:=aad awX (aad (asI False) (aad avm λp hp=>by cases hp))
set_option maxRecDepth 100000 in
theorem aw8 (B:Nat):aai Tryz.prog False B 56 (aaF ay2):=by
 refine aam (c:=Tryz.f56.body.getD .skip) (Γ :=lk gUn) (aau asM) (by kernel_rfl) Tryz.func56 (by kernel_rfl) (by kernel_rfl) ?_ B;intro pvs av ps h hp;unfold ay2 at h;split at h
 ·rename_i x y d;cases h;obtain⟨h1,h2,_⟩:=hp;refine⟨[.s true (avO x y d)],[],aaj.refl _,by rw[Tryz.ntmps56];simp,?_⟩;rw[aw7];exact⟨h1,h2,ane d,aac.refl _⟩
 ·cases h
set_option maxRecDepth 100000 in
theorem axm (B:Nat):aai Tryz.prog False B 55 (aaF ay8):=by
 refine aam (c:=Tryz.f55.body.getD .skip) (Γ :=lk gUn) (aau asM) (by kernel_rfl) Tryz.func55 (by kernel_rfl) (by kernel_rfl) ?_ B;intro pvs av ps h hp;unfold ay8 at h;split at h
 ·rename_i x y d;cases h;obtain⟨h1,h2,_⟩:=hp;refine⟨[.s true (avO x y d)],[],aaj.refl _,by rw[Tryz.ntmps55];simp,?_⟩;rw[axl];have:=aeg d;exact⟨h1,ane d,by omega,h2,ane d,by omega,aac.refl _⟩
 ·cases h
def pq0:PQ:=⟨0,0,0,0,0,0⟩
def pqE (l:List PQ):Nat->List aaa:=λi=>[.v (.int .i64 (l.getD i pq0).ax),.v (.int .i64 (l.getD i pq0).ay),.v (.int .i64 (l.getD i pq0).ad),.v (.int .i64 (l.getD i pq0).cx),.v (.int .i64 (l.getD i pq0).cy),.v (.int .i64 (l.getD i pq0).cd)]
def ay6:List aaa->PQ
 |[.v (.int _ a),.v (.int _ b),.v (.int _ c),.v (.int _ d),.v (.int _ e),.v (.int _ f)]=>⟨a,b,c,d,e,f⟩
 |_=>pq0
def pqL (n:Nat) (e:Nat->List aaa):List PQ:=(List.range n).map λi=>ay6 (e i)
theorem an2 (n:Nat) (e:Nat->List aaa):(pqL n e).length=n:=by simp[pqL]
theorem atk (l:List PQ):pqL l.length (pqE l)=l:=by
 apply List.ext_getElem?;intro i;unfold pqL;rw[List.getElem?_map];rcases Nat.lt_or_ge i l.length with hi | hi
 ·rw[List.getElem?_range hi,List.getElem?_eq_getElem hi];show some (ay6 (pqE l i))=some l[i];simp only[ay6,pqE,List.getD,List.getElem?_eq_getElem hi,Option.getD_some]
 ·rw[List.getElem?_eq_none (by simpa using hi),List.getElem?_eq_none hi];rfl
def ayV (p:PQ):Sq:=((Rat.divInt p.ax (acC p.ad),Rat.divInt p.ay (acC p.ad)),Rat.divInt p.cx (acC p.cd),Rat.divInt p.cy (acC p.cd))
def ayY (p:PQ):Rp × Rp:=((p.ax,p.ay,acC p.ad),p.cx,p.cy,acC p.cd)
def acS (l:List PQ):List Sq:=l.map ayV
def acK (l:List PQ):List (Rp × Rp):=l.map ayY
def rs0:Rp × Rp:=((0,0,0),0,0,0)
def rsE (l:List (Rp × Rp)):Nat->List aaa:=λi=>rsC (l.getD i rs0)
def alc (l:List PQ):abW:=⟨Nat,λk=>k<=l.length/\k<=14,λk=>⟨[(0,.s false [.row 6 l.length (pqE l)]),(4,.s false [.hd 900]),(5,.s false [.hd 901]),(6,.s false [.v (.int .i64 (k:Nat))])],[(900,.row 43 16 k (sgE (acS l) 4)),(901,.row 64 12 k (rsE (acK l)))]⟩,λk=>l.length-k,[.nil 4 900 43 16,.nil 5 901 64 12],[.ren 32 900,.ren 48 901],none⟩
def gSg:List (Nat × Run):=[(56,aaF ay2),(55,aaF ay8)]
theorem axY:∀ p∈gSg,∀ B,aai Tryz.prog False B p.1 p.2:=aad aw8 (aad axm λp hp=>by cases hp)
def ap3 (l:List PQ):AV:= .tup [(false,[.row 16 (l.take 14).length (sgE (acS (l.take 14)) 4)]),(false,[.row 12 (l.take 14).length (rsE (acK (l.take 14)))])]
abbrev ar6 (l:List PQ):Prop:=vc Tryz.prog (lk gSg) Tryz.f13.ntmps [(4,alc l)] (Tryz.f13.body.getD .skip) ⟨aao [.s false [.row 6 l.length (pqE l)]] 0,[]⟩ (aaH Tryz.prog Tryz.f13.results.toList (ap3 l))
theorem auf (l:List PQ):ar6 l=(let k1:=(↑l.length:Int);let k4:=List.take 14 l;let k7:=(false,[aaa.row 16 k4.length (sgE (acS k4) 4)]);let k8:=sgE (acS l) 4;let k9:=(0:Int);let k11:=acK l;let k12:=AV.s false [aaa.hd 900];let k13:=AV.s false [aaa.hd 901];let k14:=λ(zz:Nat)=>(↑zz:Int);let k0:=λ(zz:Nat)=>(List.getD l (k14 zz).toNat pq0);let k2:=λ(zz:Nat)=>(PQ.ax (k0 zz),PQ.ay (k0 zz),acC (PQ.ad (k0 zz)));let k3:=λ(zz:Nat)=>(PQ.cx (k0 zz),PQ.cy (k0 zz),acC (PQ.cd (k0 zz)));let k5:=λ(zz:Nat)=>(Rat.divInt (PQ.ax (k0 zz)) (acC (PQ.ad (k0 zz))),Rat.divInt (PQ.ay (k0 zz)) (acC (PQ.ad (k0 zz))));let k6:=λ(zz:Nat)=>(Rat.divInt (PQ.cx (k0 zz)) (acC (PQ.cd (k0 zz))),Rat.divInt (PQ.cy (k0 zz)) (acC (PQ.cd (k0 zz))));let k10:=λ(zz:Nat)=>(AV.s false [aaa.v (Value.int IntKind.i64 (k14 zz))]);let p0:=λ(i:Nat)(Z:Prop)=>(k9<=(k14 i)/\(k14 i)<k1)/\abB (PQ.ax (k0 i))/\abB (PQ.ay (k0 i))/\(k9<=(k14 i)/\(k14 i)<k1)/\abB (PQ.cx (k0 i))/\abB (PQ.cy (k0 i))/\Z;let p1:=λ(Z:Prop)=>SmA (AV.s false [aaa.row 6 l.length λ(a:Nat)=>pqE l a])/\SmA k12/\SmA k13/\Z;(Exists λ(i:Nat)=>(i<=l.length/\i<=14)/\(p1 (aac (AV.s false [aaa.v (Value.int IntKind.i64 k9)]) (k10 i)/\True))/\aaf (aae.row 43 16 0 λ(_x:Nat)=>[]) (aae.row 43 16 i k8)/\aaf (aae.row 64 12 0 λ(_x:Nat)=>[]) (aae.row 64 12 i λ(a:Nat)=>rsE k11 a)/\True)/\∀ (i:Nat),i<=l.length/\i<=14->(decide ((k14 i)<k1)=true->decide ((k14 i)<k1)=true/\(decide ((k14 i)<(14:Int))=true->p0 i ((0<=1/\(i+1)*256<=140737488355328)/\p0 i ((0<=1/\(i+1)*192<=140737488355328)/\Exists λ(i':Nat)=>(i'<=l.length/\i'<=14)/\l.length-i'<l.length-i/\(p1 (aac (AV.s false [aaa.v (Value.int IntKind.i64 (IntKind.wrap IntKind.i64 ((k14 i)+(1:Int))))]) (k10 i')/\True))/\aaf (aae.row 43 16 (i+1) λ(j:Nat)=>if j<i then (sqC (List.getD (acS l) j sq0) 4) else List.getD [(qsC [((k5 i).1,4),((k5 i).2,4),((k6 i).1,4),((k6 i).2,4)])] (j-i) []) (aae.row 43 16 i' k8)/\aaf (aae.row 64 12 (i+1) λ(j:Nat)=>if j<i then rsE k11 j else List.getD [[aaa.v (Value.int IntKind.i64 (k2 i).1.sign),aaa.m (k2 i).1.natAbs,aaa.v (Value.int IntKind.i64 (PQ.ay (k0 i),acC (PQ.ad (k0 i))).1.sign),aaa.m (k2 i).2.1.natAbs,aaa.v (Value.int IntKind.i64 (PQ.ay (k0 i),acC (PQ.ad (k0 i))).2.sign),aaa.m (k2 i).2.2.natAbs,aaa.v (Value.int IntKind.i64 (k3 i).1.sign),aaa.m (k3 i).1.natAbs,aaa.v (Value.int IntKind.i64 (PQ.cy (k0 i),acC (PQ.cd (k0 i))).1.sign),aaa.m (k3 i).2.1.natAbs,aaa.v (Value.int IntKind.i64 (PQ.cy (k0 i),acC (PQ.cd (k0 i))).2.sign),aaa.m (k3 i).2.2.natAbs]] (j-i) []) (aae.row 64 12 i' λ(a:Nat)=>rsE k11 a)/\True)))/\(decide ((k14 i)<(14:Int))=false->aac (AV.tup [(false,[aaa.row 16 i k8]),(false,[aaa.row 12 i λ(a:Nat)=>rsE k11 a])]) (AV.tup [k7,(false,[aaa.row 12 k4.length λ(a:Nat)=>rsE (acK k4) a])])))/\(decide ((k14 i)<k1)=false->decide ((k14 i)<k1)=false/\aac (AV.tup [(false,[aaa.row 16 i k8]),(false,[aaa.row 12 i λ(a:Nat)=>rsE k11 a])]) (AV.tup [k7,(false,[aaa.row 12 k4.length λ(a:Nat)=>rsE (acK k4) a])]))):=by kernel_rfl
set_option maxRecDepth 100000 in
theorem aoT (l:List PQ) (hl:∀ p∈l,p.ok):ar6 l:=by
 rw[auf];simp only[SmA,aaP,true_and,and_true,decide_eq_true_eq,decide_eq_false_iff_not,Int.toNat_natCast];have g1:∀ j,(acS l).getD j sq0=if j<l.length then ayV (l.getD j pq0) else sq0:=λj=>by
  unfold acS;by_cases h:j<l.length
  ·simp[List.getD,h]
  ·simp[List.getD,h]
 have g2:∀ j,(acK l).getD j rs0=if j<l.length then ayY (l.getD j pq0) else rs0:=λj=>by
  unfold acK;by_cases h:j<l.length
  ·simp[List.getD,h]
  ·simp[List.getD,h]
 have sg1:∀ {s t:Sq},s=t->aan (sqC s 4) (sqC t 4):=λh=>by subst h;exact aan.refl _
 have sg2:∀ {s t:Rp × Rp},s=t->aan (rsC s) (rsC t):=λh=>by subst h;exact aan.refl _
 have okL:∀ k,k<l.length->(l.getD k pq0).ok:=λk hk=>by
  have:l.getD k pq0=l[k]:=by simp[List.getD,hk]
  rw[this];exact hl _ (List.getElem_mem hk)
 have fin:∀ k,k<=l.length->k<=14->¬ (k<l.length/\k<14)->aac (.tup [(false,[.row 16 k (sgE (acS l) 4)]),(false,[.row 12 k λa=>rsE (acK l) a])]) (ap3 l):=by
  intro k h1 h2 h3;have hk:(l.take 14).length=k:=by rw[List.length_take];omega
  unfold ap3;refine aac.tup rfl λi p q hp hq=> ?_;match i,hp,hq with
  |0,hp,hq=>
   cases hp;cases hq;refine aac.one (CLe.row hk.symm (λj hj=>sg1 ?_) λj hj=>⟨rfl,rfl⟩);unfold acS;rw[List.map_take,List.getD,List.getD,List.getElem?_take,if_pos (by omega)]
  |1,hp,hq=>
   cases hp;cases hq;refine aac.one (CLe.row hk.symm (λj hj=>sg2 ?_) λj hj=>⟨rfl,rfl⟩);unfold acK;rw[List.map_take,List.getD,List.getD,List.getElem?_take,if_pos (by omega)]
 refine⟨⟨0,⟨by omega,by omega⟩,aac.ik rfl,aaf.row rfl (λj hj=>absurd hj (Nat.not_lt_zero _)) (λ_ _=>rfl),aaf.row rfl (λj hj=>absurd hj (Nat.not_lt_zero _)) (λ_ _=>rfl)⟩,λk ⟨h1,h2⟩=>⟨λh3=>⟨h3,λh4=> ?_,λh4=>fin k h1 h2 (by omega)⟩,λh3=> ?_⟩⟩
 ·have hk:k<l.length:=by omega
  obtain⟨o1,o2,_,o4,o5,_⟩:=okL k hk;refine⟨by omega,o1,o2,by omega,o4,o5,by omega,by omega,o1,o2,by omega,o4,o5,by omega,k+1,⟨by omega,by omega⟩,by omega,aac.ik (by rw[IntKind.wrap_i64];omega),aaf.row rfl (λj hj=> ?_) (λ_ _=>rfl),aaf.row rfl (λj hj=> ?_) (λ_ _=>rfl)⟩
  ·by_cases e:j<k
   ·rw[if_pos e];exact aan.refl _
   ·obtain rfl:j=k:=by omega
    rw[if_neg e,Nat.sub_self];exact sg1 (s:=ayV (l.getD j pq0)) (by rw[g1,if_pos hk])
  ·by_cases e:j<k
   ·rw[if_pos e];exact aan.refl _
   ·obtain rfl:j=k:=by omega
    rw[if_neg e,Nat.sub_self];exact sg2 (s:=ayY (l.getD j pq0)) (by rw[g2,if_pos hk])
 ·first
  |exact fin k h1 h2 (by omega)
  |exact⟨h3,fin k h1 h2 (by omega)⟩
def atc:abF
 |[.o (.s false [.row 6 n e])]=>some (ap3 (pqL n e),[∀ i,i<n->aan (e i) (pqE (pqL n e) i),∀ p∈pqL n e,p.ok])
 |_=>none
theorem CLe.rowC {sz n n':Nat} {e e':Nat->List aaa} (h:n=n') (k:∀ i,i<n->aan (e i) (e' i)) (hcl:∀ i,i<n->(e' i).all aaa.cl=true):CLe (.row sz n e) (.row sz n' e'):=by
 refine⟨λG F w v hv=> ?_⟩;have hv':COk F w (.row sz n e) v:=hv;have h2:=ajO hv' k hcl;rw[h] at h2;exact GOk.of h2
set_option maxRecDepth 100000 in
theorem aug (B:Nat):aai Tryz.prog False B 13 (aaF atc):=by
 refine aam (c:=Tryz.f13.body.getD .skip) (aau axY) (by kernel_rfl) Tryz.func13 (by kernel_rfl) (by kernel_rfl) ?_ B;intro pvs av ps h hp;unfold atc at h;split at h
 ·rename_i n e;cases h;obtain⟨h1,h2,_⟩:=hp;exact⟨[.s false [.row 6 (pqL n e).length (pqE (pqL n e))]],[(4,alc (pqL n e))],aaj.cons (aac.one (CLe.rowC (an2 n e).symm h1 λ_ _=>rfl)) aaj.nil,by rw[Tryz.ntmps13];simp,aoT _ h2⟩
 ·cases h
def gAl:List (Nat × Run):=[(22,aaF ama)]
theorem ayi (D:Prop):∀ p∈gAl,∀ B,aai Tryz.prog D B p.1 p.2:=aad (afL D) λp hp=>by cases hp
def aoA (l m:List Sq) (s t:Nat):abW:=⟨Nat,λk=>k<=l.length/\∀ j,j<k->l.getD j sq0=m.getD j sq0,λk=>⟨[(0,.s false [.row 16 l.length (sgE l s)]),(1,.s false [.row 16 m.length (sgE m t)]),(5,.s false [.v (.int .i64 (k:Nat))])],[]⟩,λk=>l.length-k,[],[],none⟩
abbrev awK (l m:List Sq) (s t:Nat):Prop:=vc Tryz.prog (lk gAl) Tryz.f14.ntmps [(4,aoA l m s t)] (Tryz.f14.body.getD .skip) ⟨aao [.s false [.row 16 l.length (sgE l s)],.s false [.row 16 m.length (sgE m t)]] 0,[]⟩ (aaH Tryz.prog Tryz.f14.results.toList (.s false [.v (.bool (decide (l=m)))]))
theorem ays (l m:List Sq) (s t:Nat):awK l m s t=(let k2:=AV.s false [aaa.v (Value.bool (decide (l=m)))];let k3:=(↑l.length:Int);let k4:=(↑m.length:Int);let k6:=AV.s false [aaa.row 16 l.length (sgE l s)];let k7:=AV.s false [aaa.row 16 m.length (sgE m t)];let k8:=AV.s false [aaa.f];let k9:=(0:Int);let k11:=λ(zz:Nat)=>(↑zz:Int);let k5:=λ(zz:Nat)=>(k11 zz).toNat;let k10:=λ(zz:Nat)=>(AV.s false [aaa.v (Value.int IntKind.i64 (k11 zz))]);let k0:=λ(zz:Nat)=>(aaW (List.getD l (k5 zz) sq0).1.1 (List.getD l (k5 zz) sq0).1.2 (List.getD m (k5 zz) sq0).1.1 (List.getD m (k5 zz) sq0).1.2 != k9);let k1:=λ(zz:Nat)=>(aaW (List.getD l (k5 zz) sq0).2.1 (List.getD l (k5 zz) sq0).2.2 (List.getD m (k5 zz) sq0).2.1 (List.getD m (k5 zz) sq0).2.2 != k9);let p1:=s<=50000/\t<=50000/\s<=50000/\t<=50000;let p0:=λ(i:Nat)(Z:Prop)=>(k9<=(k11 i)/\(k11 i)<k3)/\(k9<=(k11 i)/\(k11 i)<k4)/\SmC (ptC (List.getD l (k5 i) sq0).1 s)/\SmC (ptC (List.getD m (k5 i) sq0).1 t)/\(p1)/\Z;((k3 != k4)=true->aac k8 k2)/\((k3 != k4)=false->(Exists λ(i:Nat)=>(i<=l.length/\∀ (j:Nat),j<i->List.getD l j sq0=List.getD m j sq0)/\(SmA k6/\SmA k7/\aac (AV.s false [aaa.v (Value.int IntKind.i64 k9)]) (k10 i)/\True)/\True)/\∀ (i:Nat),(i<=l.length/\∀ (j:Nat),j<i->List.getD l j sq0=List.getD m j sq0)->(decide ((k11 i)<k3)=true->((k0 i)=true->p0 i ((k0 i)=true/\aac k8 k2))/\((k0 i)=false->p0 i ((k0 i)=false/\(k9<=(k11 i)/\(k11 i)<k3)/\(k9<=(k11 i)/\(k11 i)<k4)/\SmC (ptC (List.getD l (k5 i) sq0).2 s)/\SmC (ptC (List.getD m (k5 i) sq0).2 t)/\(p1)/\((k1 i)=true->aac k8 k2)/\((k1 i)=false->Exists λ(i':Nat)=>(i'<=l.length/\∀ (j:Nat),j<i'->List.getD l j sq0=List.getD m j sq0)/\l.length-i'<l.length-i/\(SmA k6/\SmA k7/\aac (AV.s false [aaa.v (Value.int IntKind.i64 (IntKind.wrap IntKind.i64 ((k11 i)+(1:Int))))]) (k10 i')/\True)/\True))))/\(decide ((k11 i)<k3)=false->aac (AV.s false [aaa.t]) k2))):=by kernel_rfl
set_option maxRecDepth 100000 in
theorem arV (l m:List Sq) (s t:Nat) (hs:s<=50000) (ht:t<=50000) (hn:l.length<=1000000000000):awK l m s t:=by
 rw[ays];simp only[SmC,aaZ,SmA,aaP,true_and,and_true,decide_eq_true_eq,decide_eq_false_iff_not,Int.toNat_natCast];have cmp:∀ p q:Pq,((aaW p.1 p.2 q.1 q.2 != 0)=true↔p≠q)/\((aaW p.1 p.2 q.1 q.2 != 0)=false↔p=q):=λp q=>by
  have:=abD p q;unfold abL at this;constructor
  ·rw[bne_iff_ne,ne_eq,ne_eq,this]
  ·rw[<- this];simp
 have no:(l≠m)->aac (AV.s false [aaa.f]) (AV.s false [aaa.v (Value.bool (decide (l=m)))]):=λh=>aac.ff (decide_eq_false h);refine⟨λh=>no λe=> ?_,λh=>⟨⟨0,⟨Nat.zero_le _,λj hj=>absurd hj (Nat.not_lt_zero _)⟩,aac.ik rfl⟩,λk ⟨h1,h2⟩=>⟨λh3=> ?_,λh3=>aac.tt (decide_eq_true ?_)⟩⟩⟩
 ·rw[e] at h;simp at h
 ·have hk:k<l.length:=by omega
  have hl:l.length=m.length:=by
   have h':(l.length:Int)=(m.length:Int):=by simpa using h
   omega
  refine⟨λh4=>⟨by omega,by omega,by omega,h4,no λe=> ?_⟩,λh4=>⟨by omega,by omega,by omega,h4,by omega,by omega,by omega,λh5=>no λe=> ?_,λh5=>⟨k+1,⟨by omega,λj hj=> ?_⟩,by omega,aac.ik (by rw[IntKind.wrap_i64];omega)⟩⟩⟩
  ·exact ((cmp _ _).1.1 h4) (by rw[e])
  ·exact ((cmp _ _).1.1 h5) (by rw[e])
  ·by_cases e:j<k
   ·exact h2 j e
   ·obtain rfl:j=k:=by omega
    exact Prod.ext ((cmp _ _).2.1 h4) ((cmp _ _).2.1 h5)
 ·have hl:l.length=m.length:=by
   have h':(l.length:Int)=(m.length:Int):=by simpa using h
   omega
  have hk:k=l.length:=by omega
  apply List.ext_getElem hl;intro j h5 h6;have:=h2 j (by omega);simpa[List.getD,h5,h6] using this
def azo:abF
 |[.o (.s false [.row 16 n e]),.o (.s false [.row 16 m f])]=>some (.s false [.v (.bool (decide (abt n e=abt m f)))],[∀ i,i<n->aan (e i) (sgE (abt n e) (szS e) i),∀ i,i<m->aan (f i) (sgE (abt m f) (szS f) i),szS e<=50000/\szS f<=50000,n<=1000000000000])
 |_=>none
set_option maxRecDepth 100000 in
theorem ayt (D:Prop) (B:Nat):aai Tryz.prog D B 14 (aaF azo):=by
 refine aam (c:=Tryz.f14.body.getD .skip) (aau (ayi D)) (by kernel_rfl) Tryz.func14 (by kernel_rfl) (by kernel_rfl) ?_ B;intro pvs av ps h hp;unfold azo at h;split at h
 ·rename_i n e m f;cases h;obtain⟨h1,h2,⟨h3,h4⟩,h5,_⟩:=hp;exact⟨[.s false [.row 16 (abt n e).length (sgE (abt n e) (szS e))],.s false [.row 16 (abt m f).length (sgE (abt m f) (szS f))]],[(4,aoA (abt n e) (abt m f) (szS e) (szS f))],aaj.cons (aac.one (CLe.rowC (acy n e).symm h1 λ_ _=>adh _ _)) (aaj.cons (aac.one (CLe.rowC (acy m f).symm h2 λ_ _=>adh _ _)) aaj.nil),by rw[Tryz.ntmps14];simp,arV _ _ _ _ h3 h4 (by rw[acy];exact h5)⟩
 ·cases h
end Go.Proofs.YtcmplpkmfbhpdaaGreat
namespace Go.Proofs.YtcmplpkmfbhpdaaGreat
open Go Go.ChangeShapes Go.WideShapes Go.ChangeAt Go.RowKit
theorem amI {α:Type} {l:List α} {j:Nat} {d:α} (h:j<l.length):l[j]? =some (l.getD j d):=by simp[List.getD,h]
section
variable {H:Type} {enc:TypeId × Value->H} {W:World}
set_option maxRecDepth 100000 in
theorem aqY {v:Value} {d:DataW H} {p:List MemPlace} {r:Reach} {b0:Nat} (hv:Value.okWide Tryz.prog W r b0 29 v) (h:DataW.Trod enc Tryz.prog W 0 (λ_=>true) true 29 v d p):∃ l:List PQ,aAz W v l/\COk (λg=>g<W.heap.size) W (.row 6 l.length (pqE l)) v:=by
 obtain⟨fuel,hf⟩:=h;obtain⟨a0,len0,cap0,rfl⟩:=okWide_slice Tryz.underlying29 hv;have hone:(Value.slice a0 len0 cap0).cells.toList=[.slice a0 len0 cap0]:=rfl;rw[hone] at hf;rcases DataW.trod_slice Tryz.underlying29 hf with ⟨e2,_⟩ | ⟨a,len,cap,elems,rest,n2,rfl,e2,e3,_,hlc,hcm,hel,hat,_,_⟩
 ·cases e2;exact⟨[],⟨by simp,(λx hx=>by cases hx),none,0,rfl,.inl rfl⟩,.row0⟩
 ·cases e2;cases e3;rw[ajg] at hat;obtain⟨l,hll,hq⟩:=aky len0 (λi (t:PQ)=>W.cells? 0 (a.add (i*6)) 6=some t.cells/\t.ok) (by
   intro i hi;have h1:=hat i hi;rw[List.getElem?_eq_getElem (by omega)] at h1;obtain⟨csi,h2,h3⟩:=Option.bind_eq_some_iff.1 h1;obtain⟨t,rfl,h5⟩:=ao8 n2 csi _ h3;exact⟨t,h2,h5⟩)
  have hP:aAz W (.slice (some a) len0 cap0) l:=by
   refine⟨by unfold maxLen at hcm;omega,λx hx=> ?_,some a,cap0,by rw[hll],?_⟩
   ·obtain⟨i,hi⟩:=List.getElem?_of_mem hx;exact (hq i x hi).2
   ·cases l with
    |nil=>exact .inl rfl
    |cons x0 l0=>
     obtain⟨h2,_⟩:=hq 0 x0 rfl;obtain⟨_,_,h3⟩:=World.cells?_some h2;have h4:=h3 0 (by decide);rw[add_add,Nat.zero_mul,Nat.add_zero] at h4;have h5:W.cell? a=some (.int .i64 x0.ax):=h4;obtain⟨g,o,rfl,hg⟩:=amQ h5;refine .inr ⟨g,o,rfl,hg,λi p hp j c hj=> ?_⟩;obtain⟨k1,_⟩:=hq i p hp;rw[al4] at k1;obtain⟨_,_,k6⟩:=World.cells?_some k1;have hj6:j<6:=(List.getElem?_eq_some_iff.1 hj).1;have:=k6 j hj6;rw[al4] at this;rw[this,hj]
  refine⟨l,hP,?_⟩;obtain⟨_,_,a1,cap1,e1,h1⟩:=hP;cases e1;rcases h1 with rfl | ⟨g,o,ea,hg,hc⟩
  ·exact .row0
  ·cases ea;refine .row (λi j=>(l.getD i pq0).cells.getD j undef) hg (by omega) (λi _=>rfl) (λi j hi hj=> ?_) (λi j c hi hc=> ?_)
   ·have h2:l[i]? =some (l.getD i pq0):=by simp[List.getD,hi]
    refine hc i _ h2 j _ ?_;have hj':j<(l.getD i pq0).cells.length:=hj;exact amI hj'
   ·have e6:pqE l i=(l.getD i pq0).cells.map aaa.v:=rfl;rw[e6,List.getElem?_map] at hc;cases h3:(l.getD i pq0).cells[j]? with
    |none=>rw[h3] at hc;cases hc
    |some u=>
     rw[h3] at hc;cases hc;have:(l.getD i pq0).cells.getD j undef=u:=by rw[List.getD,h3];rfl
     rw[this];have hu:u∈(l.getD i pq0).cells:=List.mem_of_getElem? h3;refine .v u ?_;simp only[PQ.cells,List.mem_cons,List.not_mem_nil,or_false] at hu;rcases hu with rfl | rfl | rfl | rfl | rfl | rfl<;>rfl
end
theorem axi {W:World} {G:Nat->GV} {l:List PQ} {v:Value} (h:COk (λg=>g<W.heap.size) W (.row 6 l.length (pqE l)) v):AV.ok (GOk G (λg=>g<W.heap.size) W) (.s false [.row 6 l.length (pqE l)]) v:=aaG (GOk.of h)
end Go.Proofs.YtcmplpkmfbhpdaaGreat
