import Derived.Test.YtcmplpkmfbhpdaaGreatSyD
import Derived.Test.YtcmplpkmfbhpdaaGreatSyE
import Derived.Test.YtcmplpkmfbhpdaaGreatSrX
import Derived.Test.YtcmplpkmfbhpdaaGreatSri
import Derived.Test.YtcmplpkmfbhpdaaGreatGC
namespace Go.Proofs.YtcmplpkmfbhpdaaGreat
open Go Go.RowKit
abbrev Pq:Type:=Rat × Rat
abbrev Sq:Type:=Pq × Pq
def sq0:Sq:=((0,0),(0,0))
def abL (p q:Pq):Int:=aaW p.1 p.2 q.1 q.2
def aa5 (t u:Sq):Int:=if abL t.1 u.1≠0 then abL t.1 u.1 else abL t.2 u.2
def sqC (t:Sq) (s:Nat):List aaa:=qsC [(t.1.1,s),(t.1.2,s),(t.2.1,s),(t.2.2,s)]
def sgE (l:List Sq) (s:Nat):Nat->List aaa:=λi=>sqC (l.getD i sq0) s
def avS (e:Nat->List aaa) (i:Nat):Sq × Nat:=match apX (e i) with
 |some [(a,s),(b,t),(c,u),(d,v)]=>(((a,b),(c,d)),max (max s t) (max u v))
 |_=>(sq0,1)
def abt (n:Nat) (e:Nat->List aaa):List Sq:=(List.range n).map λi=>(avS e i).1
def gBx:List (Nat × Run):=[(101,ain (aaF anw)),(102,ain (aaF atq))]
theorem ayh (D:Prop):∀ p∈gBx,∀ B,aai Tryz.prog D B p.1 p.2:=aad (aek (aro D)) (aad (aek (auM D)) λp hp=>by cases hp)
def mx2 (s:Nat):Nat:=max (max 1 s) s
def lo2 (x y:Rat):Rat:=abn ltR [x,y]
def hi2 (x y:Rat):Rat:=abn gtR [x,y]
def akC (t:Sq):Sq:=((lo2 t.1.1 t.2.1,lo2 t.1.2 t.2.2),(hi2 t.1.1 t.2.1,hi2 t.1.2 t.2.2))
theorem arP (t:Sq) (s:Nat):vc Tryz.prog (lk gBx) Tryz.f44.ntmps [] (Tryz.f44.body.getD .skip) ⟨aao [.s true (sqC t s)] 0,[]⟩ (aaH Tryz.prog Tryz.f44.results.toList (.s true (sqC (akC t) (mx2 s))))=(let p1:=2<=1000000/\(1<=mx2 s)/\(mx2 s)<=50000;let p0:=λ(Z:Prop)=>aac (AV.s false [aaa.row 4 2 λ(i:Nat)=>List.getD [(qsC [(t.1.1,s)]),(qsC [(t.2.1,s)])] i []]) (AV.s false [aaa.row 4 2 (afb [t.1.1,t.2.1] (mx2 s))])/\(p1)/\aac (AV.s false [aaa.row 4 2 λ(i:Nat)=>List.getD [(qsC [(t.1.2,s)]),(qsC [(t.2.2,s)])] i []]) (AV.s false [aaa.row 4 2 (afb [t.1.2,t.2.2] (mx2 s))])/\(p1)/\Z;p0 (p0 (aac (AV.s true (qsC [(lo2 t.1.1 t.2.1,mx2 s),(lo2 t.1.2 t.2.2,mx2 s),(hi2 t.1.1 t.2.1,mx2 s),(hi2 t.1.2 t.2.2,mx2 s)])) (AV.s true (qsC [((lo2 t.1.1 t.2.1,lo2 t.1.2 t.2.2).1,mx2 s),((lo2 t.1.1 t.2.1,lo2 t.1.2 t.2.2).2,mx2 s),((hi2 t.1.1 t.2.1,hi2 t.1.2 t.2.2).1,mx2 s),((hi2 t.1.1 t.2.1,hi2 t.1.2 t.2.2).2,mx2 s)]))))):=by kernel_rfl
def mx4 (a b c d:Nat):Nat:=max (max a b) (max c d)
theorem aee {t u:Sq} {s1 s2 s3 s4 s:Nat} (h:t=u) (h1:s1<=s/\s2<=s/\s3<=s/\s4<=s):aan (qsC [(t.1.1,s1),(t.1.2,s2),(t.2.1,s3),(t.2.2,s4)]) (sqC u s):=by
 subst h;exact aan.q4 ⟨⟨rfl,h1.1⟩,⟨rfl,h1.2.1⟩,⟨rfl,h1.2.2.1⟩,⟨rfl,h1.2.2.2⟩⟩
theorem aef (a b c d:Nat):a<=mx4 a b c d/\b<=mx4 a b c d/\c<=mx4 a b c d/\d<=mx4 a b c d:=by unfold mx4;omega
def anM:abF
 |[.q [(x1,s1),(y1,t1),(x2,s2),(y2,t2)]]=>some (.s true (sqC (akC ((x1,y1),(x2,y2))) (mx2 (mx4 s1 t1 s2 t2))),[mx4 s1 t1 s2 t2<=50000])
 |_=>none
theorem arQ (D:Prop) (B:Nat):aai Tryz.prog D B 44 (aaF anM):=by
 refine aam (c:=Tryz.f44.body.getD .skip) (aau (ayh D)) (by kernel_rfl) Tryz.func44 (by kernel_rfl) (by kernel_rfl) ?_ B;intro pvs av ps h hp;unfold anM at h;split at h
 ·rename_i x1 s1 y1 t1 x2 s2 y2 t2;cases h;obtain⟨hs,-⟩:=hp;have hm:=aef s1 t1 s2 t2;generalize mx4 s1 t1 s2 t2=s at *;refine⟨[.s true (sqC ((x1,y1),(x2,y2)) s)],[],aaj.cons (aac.s (aee (t:=((x1,y1),(x2,y2))) rfl hm)) aaj.nil,by rw[Tryz.ntmps44];simp,?_⟩;rw[arP];have b1:1<=mx2 s:=by unfold mx2;omega
  have b2:mx2 s<=50000:=by unfold mx2;omega
  have b3:(2:Nat)<=1000000:=by omega
  have b4:s<=mx2 s:=by unfold mx2;omega
  have row:∀ x y:Rat,aac (.s false [.row 4 2 λi=>[qsC [(x,s)],qsC [(y,s)]].getD i []]) (.s false [.row 4 2 (afb [x,y] (mx2 s))]):=λx y=>aac.rats (l:=[(x,s),(y,s)]) (S:=mx2 s) (by intro p hp;simp only[List.mem_cons,List.not_mem_nil,or_false] at hp;rcases hp with rfl | rfl<;>exact b4);exact⟨row _ _,⟨b3,b1,b2⟩,row _ _,⟨b3,b1,b2⟩,row _ _,⟨b3,b1,b2⟩,row _ _,⟨b3,b1,b2⟩,aac.refl _⟩
 ·cases h
theorem aqX (t u:Sq) (s:Nat):vc Tryz.prog (lk gQ) Tryz.f51.ntmps [] (Tryz.f51.body.getD .skip) ⟨aao [.s true (sqC t s),.s true (sqC u s)] 0,[]⟩ (aaH Tryz.prog Tryz.f51.results.toList (.s false [.v (.int .i64 (aa5 t u))]))=(SmC (qsC [(t.1.1,s),(t.1.2,s)])/\SmC (qsC [(u.1.1,s),(u.1.2,s)])/\(s<=50000/\s<=50000/\s<=50000/\s<=50000)/\((aaW t.1.1 t.1.2 u.1.1 u.1.2 != (0:Int))=true->aac (AV.s false [aaa.v (Value.int IntKind.i64 (aaW t.1.1 t.1.2 u.1.1 u.1.2))]) (AV.s false [aaa.v (Value.int IntKind.i64 (aa5 t u))]))/\((aaW t.1.1 t.1.2 u.1.1 u.1.2 != (0:Int))=false->SmC (qsC [(t.2.1,s),(t.2.2,s)])/\SmC (qsC [(u.2.1,s),(u.2.2,s)])/\(s<=50000/\s<=50000/\s<=50000/\s<=50000)/\aac (AV.s false [aaa.v (Value.int IntKind.i64 (aaW t.2.1 t.2.2 u.2.1 u.2.2))]) (AV.s false [aaa.v (Value.int IntKind.i64 (aa5 t u))]))):=by kernel_rfl
def ano:abF
 |[.q [(x1,s1),(y1,t1),(x2,s2),(y2,t2)],.q [(x3,s3),(y3,t3),(x4,s4),(y4,t4)]]=>some (.s false [.v (.int .i64 (aa5 ((x1,y1),(x2,y2)) ((x3,y3),(x4,y4))))],[max (mx4 s1 t1 s2 t2) (mx4 s3 t3 s4 t4)<=50000])
 |_=>none
theorem alo (D:Prop) (B:Nat):aai Tryz.prog D B 51 (aaF ano):=by
 refine aam (c:=Tryz.f51.body.getD .skip) (aau (atB D)) (by kernel_rfl) Tryz.func51 (by kernel_rfl) (by kernel_rfl) ?_ B;intro pvs av ps h hp;unfold ano at h;split at h
 ·rename_i x1 s1 y1 t1 x2 s2 y2 t2 x3 s3 y3 t3 x4 s4 y4 t4;cases h;obtain⟨hs,-⟩:=hp;have hm:=aef s1 t1 s2 t2;have hn:=aef s3 t3 s4 t4;have hm':s1<=max (mx4 s1 t1 s2 t2) (mx4 s3 t3 s4 t4)/\t1<=max (mx4 s1 t1 s2 t2) (mx4 s3 t3 s4 t4)/\s2<=max (mx4 s1 t1 s2 t2) (mx4 s3 t3 s4 t4)/\t2<=max (mx4 s1 t1 s2 t2) (mx4 s3 t3 s4 t4):=by omega
  have hn':s3<=max (mx4 s1 t1 s2 t2) (mx4 s3 t3 s4 t4)/\t3<=max (mx4 s1 t1 s2 t2) (mx4 s3 t3 s4 t4)/\s4<=max (mx4 s1 t1 s2 t2) (mx4 s3 t3 s4 t4)/\t4<=max (mx4 s1 t1 s2 t2) (mx4 s3 t3 s4 t4):=by omega
  clear hm hn;generalize max (mx4 s1 t1 s2 t2) (mx4 s3 t3 s4 t4)=s at *;refine⟨[.s true (sqC ((x1,y1),(x2,y2)) s),.s true (sqC ((x3,y3),(x4,y4)) s)],[],aaj.cons (aac.s (aee (t:=((x1,y1),(x2,y2))) rfl hm')) (aaj.cons (aac.s (aee (t:=((x3,y3),(x4,y4))) rfl hn')) aaj.nil),by rw[Tryz.ntmps51];simp,?_⟩;clear hm' hn';generalize (((x1,y1),(x2,y2)):Sq)=t;generalize (((x3,y3),(x4,y4)):Sq)=u;rw[aqX];simp only[SmC,aaZ,true_and];refine⟨by omega,λh=>aac.int ?_,λh=>⟨by omega,aac.int ?_⟩⟩
  ·unfold aa5 abL;rw[if_pos (by simpa using h)]
  ·unfold aa5 abL;rw[if_neg (by simpa using h)]
 ·cases h
def gOr:List (Nat × Run):=(51,aaF ano)::gO
theorem asN (D:Prop):∀ p∈gOr,∀ B,aai Tryz.prog D B p.1 p.2:=aad (alo D) (aio D)
theorem avo (t u:Sq) (s:Nat):vc Tryz.prog (lk gOr) Tryz.f53.ntmps [] (Tryz.f53.body.getD .skip) ⟨aao [.s true (sqC t s),.s true (sqC u s)] 0,[]⟩ (aaH Tryz.prog Tryz.f53.results.toList (.s false [.v (.bool (aa5 t u == 0))]))=(SmC (qsC [(t.1.1,s),(t.1.2,s),(t.2.1,s),(t.2.2,s)])/\SmC (qsC [(u.1.1,s),(u.1.2,s),(u.2.1,s),(u.2.2,s)])/\max (mx4 s s s s) (mx4 s s s s)<=50000/\aac (AV.s false [aaa.v (Value.bool (aa5 ((t.1.1,t.1.2),t.2.1,t.2.2) ((u.1.1,u.1.2),u.2.1,u.2.2) == (0:Int)))]) (AV.s false [aaa.v (Value.bool (aa5 t u == (0:Int)))])):=by kernel_rfl
def atF:abF
 |[.q [(x1,s1),(y1,t1),(x2,s2),(y2,t2)],.q [(x3,s3),(y3,t3),(x4,s4),(y4,t4)]]=>some (.s false [.v (.bool (aa5 ((x1,y1),(x2,y2)) ((x3,y3),(x4,y4)) == 0))],[max (mx4 s1 t1 s2 t2) (mx4 s3 t3 s4 t4)<=50000])
 |_=>none
theorem avp (D:Prop) (B:Nat):aai Tryz.prog D B 53 (aaF atF):=by
 refine aam (c:=Tryz.f53.body.getD .skip) (aau (asN D)) (by kernel_rfl) Tryz.func53 (by kernel_rfl) (by kernel_rfl) ?_ B;intro pvs av ps h hp;unfold atF at h;split at h
 ·rename_i x1 s1 y1 t1 x2 s2 y2 t2 x3 s3 y3 t3 x4 s4 y4 t4;cases h;obtain⟨hs,-⟩:=hp;have hm:=aef s1 t1 s2 t2;have hn:=aef s3 t3 s4 t4;have hm':s1<=max (mx4 s1 t1 s2 t2) (mx4 s3 t3 s4 t4)/\t1<=max (mx4 s1 t1 s2 t2) (mx4 s3 t3 s4 t4)/\s2<=max (mx4 s1 t1 s2 t2) (mx4 s3 t3 s4 t4)/\t2<=max (mx4 s1 t1 s2 t2) (mx4 s3 t3 s4 t4):=by omega
  have hn':s3<=max (mx4 s1 t1 s2 t2) (mx4 s3 t3 s4 t4)/\t3<=max (mx4 s1 t1 s2 t2) (mx4 s3 t3 s4 t4)/\s4<=max (mx4 s1 t1 s2 t2) (mx4 s3 t3 s4 t4)/\t4<=max (mx4 s1 t1 s2 t2) (mx4 s3 t3 s4 t4):=by omega
  clear hm hn;generalize max (mx4 s1 t1 s2 t2) (mx4 s3 t3 s4 t4)=s at *;refine⟨[.s true (sqC ((x1,y1),(x2,y2)) s),.s true (sqC ((x3,y3),(x4,y4)) s)],[],aaj.cons (aac.s (aee (t:=((x1,y1),(x2,y2))) rfl hm')) (aaj.cons (aac.s (aee (t:=((x3,y3),(x4,y4))) rfl hn')) aaj.nil),by rw[Tryz.ntmps53];simp,?_⟩;clear hm' hn';generalize (((x1,y1),(x2,y2)):Sq)=t;generalize (((x3,y3),(x4,y4)):Sq)=u;rw[avo];simp only[SmC,aaZ,aaP,true_and,and_true];unfold mx4;omega
 ·cases h
theorem apn (t u:Sq) (s:Nat):vc Tryz.prog (lk gOr) Tryz.f26.ntmps [] (Tryz.f26.body.getD .skip) ⟨aao [.s true (sqC t s),.s true (sqC u s)] 0,[]⟩ (aaH Tryz.prog Tryz.f26.results.toList (.s false [.v (.bool (decide (aa5 t u<0)))]))=(SmC (qsC [(t.1.1,s),(t.1.2,s),(t.2.1,s),(t.2.2,s)])/\SmC (qsC [(u.1.1,s),(u.1.2,s),(u.2.1,s),(u.2.2,s)])/\max (mx4 s s s s) (mx4 s s s s)<=50000/\aac (AV.s false [aaa.v (Value.bool (decide (aa5 ((t.1.1,t.1.2),t.2.1,t.2.2) ((u.1.1,u.1.2),u.2.1,u.2.2)<(0:Int))))]) (AV.s false [aaa.v (Value.bool (decide (aa5 t u<(0:Int))))])):=by kernel_rfl
def aj5:abF
 |[.q [(x1,s1),(y1,t1),(x2,s2),(y2,t2)],.q [(x3,s3),(y3,t3),(x4,s4),(y4,t4)]]=>some (.s false [.v (.bool (decide (aa5 ((x1,y1),(x2,y2)) ((x3,y3),(x4,y4))<0)))],[max (mx4 s1 t1 s2 t2) (mx4 s3 t3 s4 t4)<=50000])
 |_=>none
theorem apo (D:Prop) (B:Nat):aai Tryz.prog D B 26 (aaF aj5):=by
 refine aam (c:=Tryz.f26.body.getD .skip) (aau (asN D)) (by kernel_rfl) Tryz.func26 (by kernel_rfl) (by kernel_rfl) ?_ B;intro pvs av ps h hp;unfold aj5 at h;split at h
 ·rename_i x1 s1 y1 t1 x2 s2 y2 t2 x3 s3 y3 t3 x4 s4 y4 t4;cases h;obtain⟨hs,-⟩:=hp;have hm:=aef s1 t1 s2 t2;have hn:=aef s3 t3 s4 t4;have hm':s1<=max (mx4 s1 t1 s2 t2) (mx4 s3 t3 s4 t4)/\t1<=max (mx4 s1 t1 s2 t2) (mx4 s3 t3 s4 t4)/\s2<=max (mx4 s1 t1 s2 t2) (mx4 s3 t3 s4 t4)/\t2<=max (mx4 s1 t1 s2 t2) (mx4 s3 t3 s4 t4):=by omega
  have hn':s3<=max (mx4 s1 t1 s2 t2) (mx4 s3 t3 s4 t4)/\t3<=max (mx4 s1 t1 s2 t2) (mx4 s3 t3 s4 t4)/\s4<=max (mx4 s1 t1 s2 t2) (mx4 s3 t3 s4 t4)/\t4<=max (mx4 s1 t1 s2 t2) (mx4 s3 t3 s4 t4):=by omega
  clear hm hn;generalize max (mx4 s1 t1 s2 t2) (mx4 s3 t3 s4 t4)=s at *;refine⟨[.s true (sqC ((x1,y1),(x2,y2)) s),.s true (sqC ((x3,y3),(x4,y4)) s)],[],aaj.cons (aac.s (aee (t:=((x1,y1),(x2,y2))) rfl hm')) (aaj.cons (aac.s (aee (t:=((x3,y3),(x4,y4))) rfl hn')) aaj.nil),by rw[Tryz.ntmps26];simp,?_⟩;clear hm' hn';generalize (((x1,y1),(x2,y2)):Sq)=t;generalize (((x3,y3),(x4,y4)):Sq)=u;rw[apn];simp only[SmC,aaZ,aaP,true_and,and_true];unfold mx4;omega
 ·cases h
def adT (b c:Sq):Bool:=decide (abg b.1.1 c.2.1<=0) && decide (abg c.1.1 b.2.1<=0) && decide (abg b.1.2 c.2.2<=0) && decide (abg c.1.2 b.2.2<=0)
theorem arg (t u:Sq) (s:Nat):vc Tryz.prog (lk gO) Tryz.f48.ntmps [] (Tryz.f48.body.getD .skip) ⟨aao [.s true (sqC t s),.s true (sqC u s)] 0,[]⟩ (aaH Tryz.prog Tryz.f48.results.toList (.s false [.v (.bool (adT t u))]))=(let p2:=aac (AV.s false [aaa.f]) (AV.s false [aaa.v (Value.bool (adT t u))]);let p4:=s<=50000/\s<=50000;let p1:=λ(Z:Prop)=>decide (abg u.1.1 t.2.1<=(0:Int))=true/\SmC (qsC [(t.1.2,s)])/\SmC (qsC [(u.2.2,s)])/\(p4)/\Z;let p3:=λ(Z:Prop)=>SmC (qsC [(t.1.1,s)])/\SmC (qsC [(u.2.1,s)])/\(p4)/\Z;let p0:=λ(Z:Prop)=>p3 (decide (abg t.1.1 u.2.1<=(0:Int))=true/\SmC (qsC [(u.1.1,s)])/\SmC (qsC [(t.2.1,s)])/\(p4)/\Z);(decide (abg t.1.1 u.2.1<=(0:Int))=true->(decide (abg u.1.1 t.2.1<=(0:Int))=true->(decide (abg t.1.2 u.2.2<=(0:Int))=true->p0 (p1 (decide (abg t.1.2 u.2.2<=(0:Int))=true/\SmC (qsC [(u.1.2,s)])/\SmC (qsC [(t.2.2,s)])/\(p4)/\aac (AV.s false [aaa.v (Value.bool (decide (abg u.1.2 t.2.2<=(0:Int))))]) (AV.s false [aaa.v (Value.bool (adT t u))]))))/\(decide (abg t.1.2 u.2.2<=(0:Int))=false->p0 (p1 (decide (abg t.1.2 u.2.2<=(0:Int))=false/\p2))))/\(decide (abg u.1.1 t.2.1<=(0:Int))=false->p0 (decide (abg u.1.1 t.2.1<=(0:Int))=false/\p2)))/\(decide (abg t.1.1 u.2.1<=(0:Int))=false->p3 (decide (abg t.1.1 u.2.1<=(0:Int))=false/\p2))):=by kernel_rfl
def anr:abF
 |[.q [(x1,s1),(y1,t1),(x2,s2),(y2,t2)],.q [(x3,s3),(y3,t3),(x4,s4),(y4,t4)]]=>some (.s false [.v (.bool (adT ((x1,y1),(x2,y2)) ((x3,y3),(x4,y4))))],[max (mx4 s1 t1 s2 t2) (mx4 s3 t3 s4 t4)<=50000])
 |_=>none
theorem arh (D:Prop) (B:Nat):aai Tryz.prog D B 48 (aaF anr):=by
 refine aam (c:=Tryz.f48.body.getD .skip) (aau (aio D)) (by kernel_rfl) Tryz.func48 (by kernel_rfl) (by kernel_rfl) ?_ B;intro pvs av ps h hp;unfold anr at h;split at h
 ·rename_i x1 s1 y1 t1 x2 s2 y2 t2 x3 s3 y3 t3 x4 s4 y4 t4;cases h;obtain⟨hs,-⟩:=hp;have hm:=aef s1 t1 s2 t2;have hn:=aef s3 t3 s4 t4;have hm':s1<=max (mx4 s1 t1 s2 t2) (mx4 s3 t3 s4 t4)/\t1<=max (mx4 s1 t1 s2 t2) (mx4 s3 t3 s4 t4)/\s2<=max (mx4 s1 t1 s2 t2) (mx4 s3 t3 s4 t4)/\t2<=max (mx4 s1 t1 s2 t2) (mx4 s3 t3 s4 t4):=by omega
  have hn':s3<=max (mx4 s1 t1 s2 t2) (mx4 s3 t3 s4 t4)/\t3<=max (mx4 s1 t1 s2 t2) (mx4 s3 t3 s4 t4)/\s4<=max (mx4 s1 t1 s2 t2) (mx4 s3 t3 s4 t4)/\t4<=max (mx4 s1 t1 s2 t2) (mx4 s3 t3 s4 t4):=by omega
  clear hm hn;generalize max (mx4 s1 t1 s2 t2) (mx4 s3 t3 s4 t4)=s at *;refine⟨[.s true (sqC ((x1,y1),(x2,y2)) s),.s true (sqC ((x3,y3),(x4,y4)) s)],[],aaj.cons (aac.s (aee (t:=((x1,y1),(x2,y2))) rfl hm')) (aaj.cons (aac.s (aee (t:=((x3,y3),(x4,y4))) rfl hn')) aaj.nil),by rw[Tryz.ntmps48];simp,?_⟩;clear hm' hn';generalize (((x1,y1),(x2,y2)):Sq)=t;generalize (((x3,y3),(x4,y4)):Sq)=u;rw[arg];simp only[SmC,aaZ,true_and];have b:s<=50000/\s<=50000:=by omega
  refine⟨λh1=>⟨λh2=>⟨λh3=>⟨b,h1,b,h2,b,h3,b,aac.bool ?_⟩,λh3=>⟨b,h1,b,h2,b,h3,aac.ff ?_⟩⟩,λh2=>⟨b,h1,b,h2,aac.ff ?_⟩⟩,λh1=>⟨b,h1,aac.ff ?_⟩⟩<;>unfold adT<;>first | (rw[h1,h2,h3];simp;done) | (rw[h1,h2];simp;done) | (rw[h1];simp;done)
 ·cases h
def ajv (l:List Sq) (i k:Int):Int:=abg (l.getD i.toNat sq0).1.1 (l.getD k.toNat sq0).1.1
theorem axK (l:List Sq) (s:Nat) (i k:Int):vc Tryz.prog (lk gO) Tryz.f46.ntmps [] (Tryz.f46.body.getD .skip) ⟨aao [.s false [.v (.int .i64 i)],.s false [.v (.int .i64 k)],.s false [.el 1 1 (λ_=>[.row 16 l.length (sgE l s)]) 0 0]] 0,[]⟩ (aaH Tryz.prog Tryz.f46.results.toList (.s false [.v (.int .i64 (ajv l i k))]))=(((0:Int)<=i/\i<(↑l.length:Int))/\((0:Int)<=k/\k<(↑l.length:Int))/\SmC (qsC [((List.getD l i.toNat (((0:Rat),(0:Rat)),(0:Rat),(0:Rat))).1.1,s)])/\SmC (qsC [((List.getD l k.toNat (((0:Rat),(0:Rat)),(0:Rat),(0:Rat))).1.1,s)])/\(s<=50000/\s<=50000)/\aac (AV.s false [aaa.v (Value.int IntKind.i64 (abg (List.getD l i.toNat (((0:Rat),(0:Rat)),(0:Rat),(0:Rat))).1.1 (List.getD l k.toNat (((0:Rat),(0:Rat)),(0:Rat),(0:Rat))).1.1))]) (AV.s false [aaa.v (Value.int IntKind.i64 (ajv l i k))])):=by kernel_rfl
theorem CLe.el {sz n k off:Nat} {e e':Nat->List aaa} (h:∀ i,i<n->aan (e i) (e' i)) (hcl:∀ i,i<n->(e' i).all aaa.cl=true):CLe (.el sz n e k off) (.el sz n e' k off):=by
 refine⟨λG F w v hv=> ?_⟩;have hv':COk F w (.el sz n e k off) v:=hv;cases hv' with
 |el vals hF hk hl hc ho=>
  refine GOk.of (.el vals hF hk (λi hi=>by rw[<- (h i hi).len];exact hl i hi) hc λi j c hi hj=> ?_);have hjl:j<(e i).length:=by rw[(h i hi).len];exact (List.getElem?_eq_some_iff.1 hj).1
  have h1:=List.getElem?_eq_getElem hjl;have h2:=((h i hi).h j _ c h1 hj).h G F w _ (GOk.of (ho i j _ hi h1));exact COk.of h2 (List.all_eq_true.1 (hcl i hi) c (List.mem_of_getElem? hj))
theorem acy (n:Nat) (e:Nat->List aaa):(abt n e).length=n:=by simp[abt]
theorem ayk {c c':aaa} (h:aac (.s false [c]) (.s false [c'])):aan [c] [c']:=aan.cons ⟨λG F w v hv=>aal (h.h G F w v (aaG hv))⟩ aan.nil
def azh (s:Nat):abF
 |[.i i,.i k,.o (.s false [.el 1 1 e0 0 0])]=>match e0 0 with
  |[.row 16 n e]=>some (.s false [.v (.int .i64 (ajv (abt n e) i k))],[(0<=i/\i<n)/\0<=k/\k<n,aac (.s false [.row 16 n e]) (.s false [.row 16 (abt n e).length (sgE (abt n e) s)]),s<=50000])
  |_=>none
 |_=>none
theorem axL (D:Prop) (s:Nat) (B:Nat):aai Tryz.prog D B 46 (aaF (azh s)):=by
 refine aam (c:=Tryz.f46.body.getD .skip) (aau (aio D)) (by kernel_rfl) Tryz.func46 (by kernel_rfl) (by kernel_rfl) ?_ B;intro pvs av ps h hp;unfold azh at h;split at h
 ·rename_i i k e0;split at h
  ·rename_i n e he;cases h;obtain⟨⟨h1,h2⟩,h3,h4,-⟩:=hp;refine⟨[.s false [.v (.int .i64 i)],.s false [.v (.int .i64 k)],.s false [.el 1 1 (λ_=>[.row 16 (abt n e).length (sgE (abt n e) s)]) 0 0]],[],aaj.cons (aac.refl _) (aaj.cons (aac.refl _) (aaj.cons (aac.one (CLe.el (λj hj=> ?_) λj _=>rfl)) aaj.nil)),by rw[Tryz.ntmps46];simp,?_⟩
   ·have:j=0:=by omega
    subst this;rw[he];exact ayk h3
   ·rw[axK,acy];simp only[SmC,aaZ,true_and];exact⟨h1,h2,⟨h4,h4⟩,aac.refl _⟩
  ·cases h
 ·cases h
end Go.Proofs.YtcmplpkmfbhpdaaGreat
namespace Go.Proofs.YtcmplpkmfbhpdaaGreat
open Go Go.RowKit Go.Lib Go.Sort Go.Shelf
set_option maxHeartbeats 4000000 in
set_option maxRecDepth 100000 in
theorem apt (o:Option Addr) (c:Nat) (w:World) (fv:Value) :
  Calls Tryz.prog 148 #[.slice o 0 c,.int .i64 0,.int .i64 0,fv] w λe w'=>e= .returned (.tuple #[])/\Own w.heap.size w w':=by
 go_enter Tryz.func148,Tryz.ntmps148
 go_wp2_with fail
 go_loopg [8] 1 (λg s8 wr=>s8= .int .i64 1/\Hid (Own w.heap.size w wr))
 case atStart=>exact⟨rfl,Own.refl _ _⟩
 case round=>
  obtain⟨rfl,HO⟩:=hrel;have hlz:¬ (1:Int)<0:=by omega
  go_wp2_with fail
  go_end0
  exact⟨rfl,HO.out⟩
set_option maxHeartbeats 4000000 in
set_option maxRecDepth 100000 in
theorem ao6 (o:Option Addr) (c:Nat) (w:World) (fv:Value) (lim:Int) :
  Calls Tryz.prog 105 #[.slice o 0 c,.int .i64 0,.int .i64 0,.int .i64 lim,fv] w λe w'=>e= .returned (.tuple #[])/\Own w.heap.size w w':=by
 go_enter Tryz.func105,Tryz.ntmps105
 go_wp2_with fail
 go_loopg [1,2] 1 (λg s1 s2 wr=>s1= .int .i64 0/\s2= .int .i64 0/\Hid (Own w.heap.size w wr))
 case atStart=>exact⟨rfl,rfl,Own.refl _ _⟩
 case round=>
  obtain⟨rfl,rfl,HO⟩:=hrel;go_wp2_with fail
  refine (apt o c _ fv).mono ?_;rintro e w1 ⟨rfl,hg1⟩;have HG:=Lib.hid (HO.out.call HO.out.size hg1);clear hg1 HO;go_wp2_with fail
  (try simp only[Exit.inBlock,Exit.then]);refine bodyPost_ret (results_none rfl _ _ _) rfl ?_
  exact⟨rfl,HG.out⟩
set_option maxHeartbeats 4000000 in
set_option maxRecDepth 100000 in
theorem amm:aft Tryz.prog 49 :=by
 intro o c fv w;go_enter Tryz.func49,Tryz.ntmps49
 go_wp2_with fail
 refine (Tryz.bits_Len 0 w (by omega) (by omega)).mono ?_;rintro e w1 ⟨rfl,rfl⟩;go_wp2_with fail
 refine (ao6 o c _ fv _).mono ?_;rintro e w1 ⟨rfl,hg1⟩;have HG:=Lib.hid hg1;clear hg1;go_wp2_with fail
 go_end0
 exact⟨rfl,HG.out⟩
set_option maxHeartbeats 4000000 in
set_option maxRecDepth 100000 in
theorem aps (o:Option Addr) (c:Nat) (w:World) (fv:Value) :
  Calls Tryz.prog 158 #[.slice o 0 c,.int .i64 0,.int .i64 0,fv] w λe w'=>e= .returned (.tuple #[])/\Own w.heap.size w w':=by
 go_enter Tryz.func158,Tryz.ntmps158
 go_wp2_with fail
 go_loopg [8] 1 (λg s8 wr=>s8= .int .i64 1/\Hid (Own w.heap.size w wr))
 case atStart=>exact⟨rfl,Own.refl _ _⟩
 case round=>
  obtain⟨rfl,HO⟩:=hrel;have hlz:¬ (1:Int)<0:=by omega
  go_wp2_with fail
  go_end0
  exact⟨rfl,HO.out⟩
set_option maxHeartbeats 4000000 in
set_option maxRecDepth 100000 in
theorem ao5 (o:Option Addr) (c:Nat) (w:World) (fv:Value) (lim:Int) :
  Calls Tryz.prog 107 #[.slice o 0 c,.int .i64 0,.int .i64 0,.int .i64 lim,fv] w λe w'=>e= .returned (.tuple #[])/\Own w.heap.size w w':=by
 go_enter Tryz.func107,Tryz.ntmps107
 go_wp2_with fail
 go_loopg [1,2] 1 (λg s1 s2 wr=>s1= .int .i64 0/\s2= .int .i64 0/\Hid (Own w.heap.size w wr))
 case atStart=>exact⟨rfl,rfl,Own.refl _ _⟩
 case round=>
  obtain⟨rfl,rfl,HO⟩:=hrel;go_wp2_with fail
  refine (aps o c _ fv).mono ?_;rintro e w1 ⟨rfl,hg1⟩;have HG:=Lib.hid (HO.out.call HO.out.size hg1);clear hg1 HO;go_wp2_with fail
  (try simp only[Exit.inBlock,Exit.then]);refine bodyPost_ret (results_none rfl _ _ _) rfl ?_
  exact⟨rfl,HG.out⟩
set_option maxHeartbeats 4000000 in
set_option maxRecDepth 100000 in
theorem aml:aft Tryz.prog 50 :=by
 intro o c fv w;go_enter Tryz.func50,Tryz.ntmps50
 go_wp2_with fail
 refine (Tryz.bits_Len 0 w (by omega) (by omega)).mono ?_;rintro e w1 ⟨rfl,rfl⟩;go_wp2_with fail
 refine (ao5 o c _ fv _).mono ?_;rintro e w1 ⟨rfl,hg1⟩;have HG:=Lib.hid hg1;clear hg1;go_wp2_with fail
 go_end0
 exact⟨rfl,HG.out⟩
set_option maxHeartbeats 4000000 in
set_option maxRecDepth 100000 in
theorem apu (o:Option Addr) (c:Nat) (w:World) (fv:Value) :
  Calls Tryz.prog 146 #[.slice o 0 c,.int .i64 0,.int .i64 0,fv] w λe w'=>e= .returned (.tuple #[])/\Own w.heap.size w w':=by
 go_enter Tryz.func146,Tryz.ntmps146
 go_wp2_with fail
 go_loopg [8] 1 (λg s8 wr=>s8= .int .i64 1/\Hid (Own w.heap.size w wr))
 case atStart=>exact⟨rfl,Own.refl _ _⟩
 case round=>
  obtain⟨rfl,HO⟩:=hrel;have hlz:¬ (1:Int)<0:=by omega
  go_wp2_with fail
  go_end0
  exact⟨rfl,HO.out⟩
set_option maxHeartbeats 4000000 in
set_option maxRecDepth 100000 in
theorem ajl (o:Option Addr) (c:Nat) (w:World) (fv:Value) :
  Calls Tryz.prog 103 #[.slice o 0 c,.int .i64 0,fv] w λe w'=>e= .returned (.tuple #[])/\Own w.heap.size w w':=by
 go_enter Tryz.func103,Tryz.ntmps103
 go_wp2_with fail
 go_loopg [7,8] 1 (λg s7 s8 wr=>s7= .int .i64 0/\s8= .int .i64 20/\Hid (Own w.heap.size w wr))
 case atStart=>exact⟨rfl,rfl,Own.refl _ _⟩
 case round=>
  obtain⟨rfl,rfl,HO⟩:=hrel;have hlz:¬ (20:Int)<=0:=by omega
  go_wp2_with fail
  refine (apu o c _ fv).mono ?_;rintro e w1 ⟨rfl,hg1⟩;have HG:=Lib.hid (HO.out.call HO.out.size hg1);clear hg1 HO;go_wp2_with fail
  go_loopg [6,7,8,9] 1 (λg s6 s7 s8 s9 wr=>s6= .int .i64 20/\Hid (Own w.heap.size w wr))
  case atStart=>exact⟨rfl,HG⟩
  case round=>
   clear HG;obtain⟨rfl,HO⟩:=hrel;have hlz:¬ (20:Int)<0:=by omega
   go_wp2_with fail
   go_end0
   exact⟨rfl,HO.out⟩
set_option maxHeartbeats 4000000 in
set_option maxRecDepth 100000 in
theorem amn:aft Tryz.prog 45 :=by
 intro o c fv w;go_enter Tryz.func45,Tryz.ntmps45
 go_wp2_with fail
 refine (ajl o c _ fv).mono ?_;rintro e w1 ⟨rfl,hg1⟩;have HG:=Lib.hid hg1;clear hg1;go_wp2_with fail
 go_end0
 exact⟨rfl,HG.out⟩
theorem aqA:aiz Tryz.prog 49 41 8 true 1152921504606846976:=ar5 Tryz.sortPt rfl 8 Tryz.isAgg41 Tryz.sizeOf41
theorem aqz:aiz Tryz.prog 50 43 16 true 1152921504606846976:=ar5 Tryz.sortSg rfl 16 Tryz.isAgg43 Tryz.sizeOf43
theorem alS {α:Type} {enc:α->List Value} (hk:∀ x,(enc x).length=1) (l:List α):l.flatMap enc=l.map λx=>(enc x).getD 0 undef:=by
 induction l with
 |nil=>rfl
 |cons x r ih=>
  rw[List.flatMap_cons,List.map_cons,ih];have:=hk x;match h:enc x,this with
  |[v],_=>rfl
theorem aqB:aiz Tryz.prog 45 3 1 false 21:=by
 intro α _ enc hk h1 cf hO g cb B v l w eg hTu hr hl0 hn hcmp;obtain⟨hx,⟨_,h0⟩ | ⟨blk,cap,cur,rfl,hB,hg,hc,hm,hs,ht⟩⟩:=hr
 ·omega
 have hgt:blk<w.heap.size:=(Array.getElem?_eq_some_iff.1 hg).1;have ho:OneCell (λx:α=>(enc x).getD 0 undef):=λx=>by
  have:=hk x;match h:enc x,this with
  |[v],_=>
   have hv:(enc x).getD 0 undef=v:=by rw[h];rfl
   have:=h1 x v (by rw[h];simp);rw[<- hv] at this;exact this
 rw[alS hk] at ht;have hB0:aak 3 w blk cur.toList:=hg;have hH:Holds (λx:α=>(enc x).getD 0 undef) w blk 0 l.toArray:=λj hj=>by
  have hj':j<l.length:=by simpa using hj
  refine⟨?_,?_⟩
  ·rw[Nat.zero_add,hB0.cell j];have h3:=congrArg (λq=>q[j]?) ht;simp only[List.getElem?_take,List.getElem?_map,Nat.mul_one,if_pos hj',List.getElem?_eq_getElem hj',Option.map_some] at h3;rw[h3,getElem!_pos l.toArray j hj];simp
  ·rw[Nat.zero_add];exact hB0.free j
 have grown:∀ {m:Nat} {dk:Array α} {os:Array Obj},w.grownBy (sortWorld (λx:α=>(enc x).getD 0 undef) w blk 0 m dk os) (some blk):=λ{m dk os} =>by
  refine⟨rfl,rfl,rfl,?_,λg hg hn=> ?_⟩
  ·show w.heap.size<=((w.heap.modify blk _)++os).size;rw[Array.size_append,Array.size_modify];omega
  ·show ((w.heap.modify blk _)++os)[g]? =_;rw[Array.getElem?_append_left (by simpa using hg),Array.getElem?_modify,if_neg (λe=>hn (by rw[e]))]
 have hC:CmpLays1 Tryz.prog g cb (λx:α=>(enc x).getD 0 undef) cf blk 0 l.toArray.size w:=λm os dk hdk x y=>by
  refine (hcmp _ grown (adJ grown hg hTu) (Nat.le_add_right _ _) x y).mono ?_;rintro e w' ⟨rfl,ho⟩;exact⟨rfl,an3 ho⟩
 have h:=agF (λx:α=>(enc x).getD 0 undef) cf hO g cb blk 0 cap l.length l.toArray w eg (by simpa using hC) ⟨ho,hH,hgt⟩ (by simp) (by omega) (by omega) l.toArray w (by simp) (SW.start hH);refine h.mono ?_;rintro e w' ⟨rfl,d',p2,hp,hsd,hw⟩;have hp':PermIn 0 l.toArray.size l.toArray d':=by simpa using hp
 obtain⟨p1,_⟩:=ago hp';have hHd:=hw.holds hgt hH (by rw[p2];simp);obtain⟨m,os,rfl⟩:=hw;have hlen2:d'.toList.length=l.length:=by rw[Array.length_toList];exact p2
 have q:∃ cs:Array Value,(sortWorld (λx:α=>(enc x).getD 0 undef) w blk 0 m d' os).heap[blk]? =some (.cells cs 3 (0,0))/\cs.size=cur.size:=by
  refine⟨putCells (λx:α=>(enc x).getD 0 undef) 0 d' cur,?_,aeE _ _ _ _⟩;show ((w.heap.modify blk _)++os)[blk]? =_;rw[Array.getElem?_append_left (by simpa using hgt),Array.getElem?_modify,if_pos rfl,hg];rfl
 obtain⟨cs',q1,q2⟩:=q;refine⟨rfl,grown,adJ grown hg hTu,Nat.le_add_right _ _,d'.toList,p1,agm hsd p2,?_,.inr ⟨blk,cap,cs',by rw[hlen2],hB,q1,by rw[hlen2];exact hc,hm,by rw[q2];exact hs,?_⟩⟩
 ·rw[ahC hk]
 ·rw[alS hk];have hB1:aak 3 (sortWorld (λx:α=>(enc x).getD 0 undef) w blk 0 m d' os) blk cs'.toList:=q1;apply List.ext_getElem?;intro j;rw[List.getElem?_take,List.getElem?_map,Nat.mul_one];by_cases hj:j<d'.toList.length
  ·have hj2:j<d'.size:=by simpa using hj
   rw[if_pos hj];have h3:=(hHd j hj2).1;rw[Nat.zero_add,hB1.cell j] at h3;rw[h3,getElem!_pos d' j hj2,List.getElem?_eq_getElem hj];simp
  ·rw[if_neg hj,List.getElem?_eq_none (by omega)];rfl
end Go.Proofs.YtcmplpkmfbhpdaaGreat
namespace Go.Proofs.YtcmplpkmfbhpdaaGreat
open Go Go.RowKit
def ptC (p:Pq) (s:Nat):List aaa:=qsC [(p.1,s),(p.2,s)]
def al7 (p:Sq):List Sq->List Sq
 |[]=>[]
 |x::r=>if aa5 x p=0 then al7 x r else x::al7 x r
def ady:List Sq->List Sq
 |[]=>[]
 |a::r=>a::al7 a r
def aeG (l:List Sq) (m:Nat):List Sq:=ady (l.take m)++l.drop (ady (l.take m)).length
def ckA (l:List Sq) (m:Nat):Nat:=(ady (l.take m)).length
def gCp:List (Nat × Run):=[(53,aaF atF)]
theorem ayg (D:Prop):∀ p∈gCp,∀ B,aai Tryz.prog D B p.1 p.2:=aad (avp D) λp hp=>by cases hp
def aou (l:List Sq) (s:Nat):abW:=⟨Nat,λk=>1<=k/\k<=l.length/\ady (l.take k)=l.take k,λk=>⟨[(0,.s false [.hd 1000000]),(1,.s false [.clo 53 []]),(5,.s false [.v (.int .i64 k)])],[(1000000,.row 43 16 l.length (sgE l s))]⟩,λk=>l.length-k,[],[],none⟩
def aot (l:List Sq) (s:Nat):abW:=⟨Nat × Nat,λp=>1<=p.1/\1<=p.2/\p.1+p.2<=l.length/\ckA l (p.1+p.2)<=p.1+p.2-1/\p.1<=ckA l (p.1+p.2),λp=>⟨[(0,.s false [.hd 1000000]),(1,.s false [.clo 53 []]),(5,.s false [.v (.int .i64 (ckA l (p.1+p.2)))]),(6,.s false [.pt 1000000 16 p.1 (l.length-p.1)]),(7,.s false [.v (.int .i64 p.2)])],[(1000000,.row 43 16 l.length (sgE (aeG l (p.1+p.2)) s))]⟩,λp=>l.length-p.2,[],[],none⟩
def pre (a0 a1:List Adj):abW:=⟨Unit,λ_=>True,λ_=>⟨[],[]⟩,λ_=>0,a0,a1,none⟩
abbrev asR (l:List Sq) (s:Nat):Prop:=vc Tryz.prog (lk gCp) Tryz.f52.ntmps [(4,aou l s),(9,aot l s),(1000002,pre [] [.ren 1000000 90]),(1000015,pre [] [.cut 4 90]),(1000016,pre [] [.ren 1000000 90])] (Tryz.f52.body.getD .skip) (⟨aao [.s false [.hd 1000000],.s false [.clo 53 []]] 0,[(1000000,.row 43 16 l.length (sgE l s))]⟩) (asX Tryz.prog Tryz.f52.results.toList [90] (.s false [.hd 90]) [(90,.row 43 16 (ady l).length (sgE (ady l) s))])
theorem avy (l:List Sq) (s:Nat):asR l s=(let k2:=Value.slice none 0 0;let k3:=aae.row 43 16 (ady l).length (sgE (ady l) s);let k4:=AV.s false [aaa.hd 1000000];let k5:=AV.s false [aaa.clo 53 []];let k6:=(1:Int);let k7:=(0:Int);let k8:=l.length;let k9:=AV.s false [aaa.v (Value.int IntKind.i64 k6)];let k10:=AV.s false [aaa.hd 90];let k11:=λ(zz:Nat × Nat)=>(zz.1+zz.2);let k12:=mx4 s s s s;let k0:=(↑k8:Int);let k1:=aae.row 43 16 k8 (sgE l s);let p0:=SmA k10/\aaf k1 k3/\True;(decide (k0<(2:Int))=true->p0)/\(decide (k0<(2:Int))=false->(Exists λ(i:Nat)=>(1<=i/\i<=l.length/\ady (List.take i l)=List.take i l)/\(SmA k4/\SmA k5/\aac k9 (AV.s false [aaa.v (Value.int IntKind.i64 (↑i:Int))])/\True)/\SmB k1/\True)/\∀ (i:Nat),1<=i/\i<=l.length/\ady (List.take i l)=List.take i l->(decide ((↑i:Int)<k0)=true->(k7<=(↑i:Int)/\(↑i:Int)<k0)/\(↑i:Int).toNat<l.length/\(k7<=IntKind.wrap IntKind.i64 ((↑i:Int)-k6)/\IntKind.wrap IntKind.i64 ((↑i:Int)-k6)<k0)/\(IntKind.wrap IntKind.i64 ((↑i:Int)-k6)).toNat<l.length/\SmC (sqC (List.getD l (↑i:Int).toNat sq0) s)/\SmC (sqC (List.getD l (IntKind.wrap IntKind.i64 ((↑i:Int)-k6)).toNat sq0) s)/\max k12 k12<=50000/\((aa5 (List.getD l (↑i:Int).toNat sq0) (List.getD l (IntKind.wrap IntKind.i64 ((↑i:Int)-k6)).toNat sq0) == k7)=true->(k7<=(↑i:Int)/\(↑i:Int)<=k0/\k0<=k0)/\(Exists λ(i_1:Nat × Nat)=>(1<=i_1.1/\1<=i_1.2/\i_1.1+i_1.2<=l.length/\ckA l (k11 i_1)<=i_1.1+i_1.2-1/\i_1.1<=ckA l (k11 i_1))/\(SmA k4/\SmA k5/\aac (AV.s false [aaa.v (Value.int IntKind.i64 (↑i:Int))]) (AV.s false [aaa.v (Value.int IntKind.i64 (↑(ckA l (k11 i_1)):Int))])/\aac (AV.s false [aaa.pt 1000000 16 (↑i:Int).toNat (k0.toNat-(↑i:Int).toNat)]) (AV.s false [aaa.pt 1000000 16 i_1.1 (l.length-i_1.1)])/\aac k9 (AV.s false [aaa.v (Value.int IntKind.i64 (↑i_1.2:Int))])/\True)/\aaf k1 (aae.row 43 16 k8 (sgE (aeG l (k11 i_1)) s))/\True)/\∀ (i:Nat × Nat),1<=i.1/\1<=i.2/\i.1+i.2<=l.length/\ckA l (i.1+i.2)<=i.1+i.2-1/\i.1<=ckA l (i.1+i.2)->(decide ((↑i.2:Int)<(↑(l.length-i.1):Int))=true->(k7<=(↑i.2:Int)/\(↑i.2:Int)<(↑(l.length-i.1):Int))/\i.1+(↑i.2:Int).toNat<l.length/\(k7<=IntKind.wrap IntKind.i64 ((↑i.2:Int)-k6)/\IntKind.wrap IntKind.i64 ((↑i.2:Int)-k6)<(↑(l.length-i.1):Int))/\i.1+(IntKind.wrap IntKind.i64 ((↑i.2:Int)-k6)).toNat<l.length/\SmC (sqC (List.getD (aeG l (i.1+i.2)) (i.1+(↑i.2:Int).toNat) sq0) s)/\SmC (sqC (List.getD (aeG l (i.1+i.2)) (i.1+(IntKind.wrap IntKind.i64 ((↑i.2:Int)-k6)).toNat) sq0) s)/\max k12 k12<=50000/\((!aa5 (List.getD (aeG l (i.1+i.2)) (i.1+(↑i.2:Int).toNat) sq0) (List.getD (aeG l (i.1+i.2)) (i.1+(IntKind.wrap IntKind.i64 ((↑i.2:Int)-k6)).toNat) sq0) == k7)=true->(k7<=(↑i.2:Int)/\(↑i.2:Int)<(↑(l.length-i.1):Int))/\i.1+(↑i.2:Int).toNat<l.length/\(k7<=(↑(ckA l (i.1+i.2)):Int)/\(↑(ckA l (i.1+i.2)):Int)<k0)/\(↑(ckA l (i.1+i.2)):Int).toNat<l.length/\Exists λ(i':Nat × Nat)=>(1<=i'.1/\1<=i'.2/\i'.1+i'.2<=l.length/\ckA l (i'.1+i'.2)<=i'.1+i'.2-1/\i'.1<=ckA l (i'.1+i'.2))/\l.length-i'.2<l.length-i.2/\(SmA k4/\SmA k5/\aac (AV.s false [aaa.v (Value.int IntKind.i64 (IntKind.wrap IntKind.i64 ((↑(ckA l (i.1+i.2)):Int)+k6)))]) (AV.s false [aaa.v (Value.int IntKind.i64 (↑(ckA l (i'.1+i'.2)):Int))])/\aac (AV.s false [aaa.pt 1000000 16 i.1 (l.length-i.1)]) (AV.s false [aaa.pt 1000000 16 i'.1 (l.length-i'.1)])/\aac (AV.s false [aaa.v (Value.int IntKind.i64 (IntKind.wrap IntKind.i64 ((↑i.2:Int)+k6)))]) (AV.s false [aaa.v (Value.int IntKind.i64 (↑i'.2:Int))])/\True)/\aaf (aae.row 43 16 k8 λ(j:Nat)=>if j=(↑(ckA l (i.1+i.2)):Int).toNat then (sqC (List.getD (aeG l (i.1+i.2)) (i.1+(↑i.2:Int).toNat) sq0) s) else (sqC (List.getD (aeG l (i.1+i.2)) j sq0) s)) (aae.row 43 16 k8 (sgE (aeG l (i'.1+i'.2)) s))/\True)/\((!aa5 (List.getD (aeG l (i.1+i.2)) (i.1+(↑i.2:Int).toNat) sq0) (List.getD (aeG l (i.1+i.2)) (i.1+(IntKind.wrap IntKind.i64 ((↑i.2:Int)-k6)).toNat) sq0) == k7)=false->Exists λ(i':Nat × Nat)=>(1<=i'.1/\1<=i'.2/\i'.1+i'.2<=l.length/\ckA l (i'.1+i'.2)<=i'.1+i'.2-1/\i'.1<=ckA l (i'.1+i'.2))/\l.length-i'.2<l.length-i.2/\(SmA k4/\SmA k5/\aac (AV.s false [aaa.v (Value.int IntKind.i64 (↑(ckA l (i.1+i.2)):Int))]) (AV.s false [aaa.v (Value.int IntKind.i64 (↑(ckA l (i'.1+i'.2)):Int))])/\aac (AV.s false [aaa.pt 1000000 16 i.1 (l.length-i.1)]) (AV.s false [aaa.pt 1000000 16 i'.1 (l.length-i'.1)])/\aac (AV.s false [aaa.v (Value.int IntKind.i64 (IntKind.wrap IntKind.i64 ((↑i.2:Int)+k6)))]) (AV.s false [aaa.v (Value.int IntKind.i64 (↑i'.2:Int))])/\True)/\aaf (aae.row 43 16 k8 (sgE (aeG l (i.1+i.2)) s)) (aae.row 43 16 k8 (sgE (aeG l (i'.1+i'.2)) s))/\True))/\(decide ((↑i.2:Int)<(↑(l.length-i.1):Int))=false->(k7<=(↑(ckA l (i.1+i.2)):Int)/\(↑(ckA l (i.1+i.2)):Int)<=k0/\k0<=k0)/\(↑(ckA l (i.1+i.2)):Int).toNat+(k0.toNat-(↑(ckA l (i.1+i.2)):Int).toNat)<=l.length/\(k7<=k7/\k7<=(↑(ckA l (i.1+i.2)):Int)/\(↑(ckA l (i.1+i.2)):Int)<=k0)/\0<(↑(ckA l (i.1+i.2)):Int).toNat-0/\SmA k10/\aaf (aae.row 43 16 ((↑(ckA l (i.1+i.2)):Int).toNat-k7.toNat) λ(j:Nat)=>if (↑(ckA l (i.1+i.2)):Int).toNat<=j/\j<(↑(ckA l (i.1+i.2)):Int).toNat+(k0.toNat-(↑(ckA l (i.1+i.2)):Int).toNat) then [aaa.v k2,aaa.f,aaa.v k2,aaa.f,aaa.v k2,aaa.f,aaa.v k2,aaa.f,aaa.v k2,aaa.f,aaa.v k2,aaa.f,aaa.v k2,aaa.f,aaa.v k2,aaa.f] else (sqC (List.getD (aeG l (i.1+i.2)) j sq0) s)) k3/\True))/\((aa5 (List.getD l (↑i:Int).toNat sq0) (List.getD l (IntKind.wrap IntKind.i64 ((↑i:Int)-k6)).toNat sq0) == k7)=false->Exists λ(i':Nat)=>(1<=i'/\i'<=l.length/\ady (List.take i' l)=List.take i' l)/\l.length-i'<l.length-i/\(SmA k4/\SmA k5/\aac (AV.s false [aaa.v (Value.int IntKind.i64 (IntKind.wrap IntKind.i64 ((↑i:Int)+k6)))]) (AV.s false [aaa.v (Value.int IntKind.i64 (↑i':Int))])/\True)/\SmB k1/\True))/\(decide ((↑i:Int)<k0)=false->p0))):=by kernel_rfl
theorem aac.wrapL {i n:Nat} (h:i<n) (hn:n<=1000000000000000):aac (.s false [.v (.int .i64 (IntKind.i64.wrap ((i:Int)+1)))]) (.s false [.v (.int .i64 ((i+1:Nat):Int))]):=
 aac.int (by rw[IntKind.wrap_i64];omega)
theorem ajd (x:Sq):∀ (r:List Sq) (p:Sq),al7 p (r++[x])=al7 p r++if aa5 x ((p::r).getLast (by simp))=0 then [] else [x]
 |[],p=>by
  show (if aa5 x p=0 then al7 x [] else x::al7 x [])=_;rfl
 |y::r,p=>by
  have h1:=ajd x r y;have h2:(p::y::r).getLast (by simp)=(y::r).getLast (by simp):=List.getLast_cons (by simp);simp only[List.cons_append,al7,h1,h2];split<;>simp
theorem ac4 {l:List Sq} {m:Nat} (h0:1<=m) (hm:m<l.length):ady (l.take (m+1))=if aa5 (l.getD m sq0) (l.getD (m-1) sq0)=0 then ady (l.take m) else ady (l.take m)++[l.getD m sq0]:=by
 have e1:l.take (m+1)=l.take m++[l.getD m sq0]:=by
  rw[List.take_succ_eq_append_getElem hm];simp[List.getD,hm]
 rw[e1];match hl:l.take m with
 |[]=>
  have h3:(l.take m).length=0:=by rw[hl];rfl
  rw[List.length_take] at h3;omega
 |a::r=>
  have h2:(a::r).getLast (by simp)=l.getD (m-1) sq0:=by
   have h3:(a::r)[(a::r).length-1]? =l[m-1]? :=by
    have hlen:(a::r).length=m:=by rw[<- hl,List.length_take];omega
    rw[hlen,<- hl,List.getElem?_take,if_pos (show m-1<m by omega)]
   rw[List.getLast_eq_getElem];have hm1:m-1<l.length:=by omega
   rw[List.getElem?_eq_getElem hm1,List.getElem?_eq_getElem (by simp)] at h3;simp only[List.getD,List.getElem?_eq_getElem hm1,Option.getD_some];exact Option.some.inj h3
  simp only[List.cons_append,ady];rw[ajd,h2];split<;>simp
theorem aod {l:List Sq} {m j:Nat} (h:ckA l m<=j):(aeG l m).getD j sq0=l.getD j sq0:=by
 unfold ckA at h;unfold aeG;simp only[List.getD];rw[List.getElem?_append_right h,List.getElem?_drop];congr 2
 omega
theorem arf {l:List Sq} {m j:Nat} (h0:1<=m) (hm:m<l.length) (hne:aa5 (l.getD m sq0) (l.getD (m-1) sq0)≠0) (_hk:ckA l m<l.length):(aeG l (m+1)).getD j sq0=if j=ckA l m then l.getD m sq0 else (aeG l m).getD j sq0:=by
 unfold aeG;rw[ac4 h0 hm,if_neg hne];unfold ckA;generalize ady (l.take m)=D at *;simp only[List.getD,List.length_append,List.length_cons,List.length_nil,Nat.zero_add,List.append_assoc];split
 ·rename_i e;subst e;rw[List.getElem?_append_right (Nat.le_refl _),Nat.sub_self];rfl
 ·rename_i e;rcases Nat.lt_or_ge j D.length with h | h
  ·rw[List.getElem?_append_left h,List.getElem?_append_left h]
  ·rw[List.getElem?_append_right h,List.getElem?_append_right h,List.getElem?_append_right (by simp;omega),List.getElem?_drop,List.getElem?_drop];congr 2
   simp;omega
theorem adh (t:Sq) (s:Nat):(sqC t s).all aaa.cl=true:=rfl
def atG (s:Nat):Run:=λb avs t=>match avs with
 |[.s false [.hd k],.s false [.clo g []]]=>match b k with
  |some (.row T 16 n e)=>match Nat.beq g 53 && Nat.beq T 43 with
   |true=>some { val:=some (.s false [.hd t]),set:=[(t,.row 43 16 (ady (abt n e)).length (sgE (ady (abt n e)) s))],nws:=[t],del:=[k],ps:=[∀ i,i<n->aan (e i) (sgE (abt n e) s i),s<=50000/\n<=1000000000000] }
   |false=>none
  |_=>none
 |_=>none
set_option maxHeartbeats 1000000 in
theorem apI (l:List Sq) (s:Nat) (hn:l.length<=1000000000000) (hs:s<=50000):asR l s:=by
 rw[avy];have hb:max (mx4 s s s s) (mx4 s s s s)<=50000:=by unfold mx4;omega
 simp only[SmA,SmC,SmB,aaZ,aaP,abj,true_and,and_true,Int.toNat_natCast,decide_eq_true_eq,decide_eq_false_iff_not,hb];have wrap1:∀ i:Nat,1<=i->i<=l.length->IntKind.i64.wrap ((i:Int)-1)=((i-1:Nat):Int):=λi h1 h2=>by rw[IntKind.wrap_i64];omega
 have ded1:ady (l.take 1)=l.take 1:=by
  match l with
  |[]=>rfl
  |a::r=>rfl
 refine⟨λh=> ?_,λh2=>⟨⟨1,⟨Nat.le_refl _,by omega,ded1⟩,aac.refl _⟩,λi hi=>⟨λhlt=> ?_,λhge=> ?_⟩⟩⟩
 ·have:ady l=l:=by
   match l,h with
   |[],_=>rfl
   |[a],_=>rfl
   |_::_::_,h=>simp at h;omega
  rw[this];exact aaf.refl _
 ·obtain⟨h1,h3,h4⟩:=hi;have hlt':i<l.length:=by omega
  rw[wrap1 i h1 h3];simp only[Int.toNat_natCast];refine⟨by omega,hlt',by omega,by omega,λhe=>⟨by omega,⟨(i,1),?_,?_⟩,λp hp=>⟨λhlt2=> ?_,λhge2=> ?_⟩⟩,λhe=>⟨i+1,⟨by omega,hlt',?_⟩,by omega,aac.wrapL hlt' (by omega)⟩⟩
  ·have he':=eq_of_beq he;have hck:ckA l (i+1)=i:=by unfold ckA;rw[ac4 h1 hlt',if_pos he',h4,List.length_take];omega
   simp only[hck];omega
  ·have he':=eq_of_beq he;have hck:ckA l (i+1)=i:=by unfold ckA;rw[ac4 h1 hlt',if_pos he',h4,List.length_take];omega
   have hmx:aeG l (i+1)=l:=by
    unfold aeG;rw[ac4 h1 hlt',if_pos he',h4,List.length_take,Nat.min_eq_left h3,List.take_append_drop]
   simp only[hck,hmx];exact⟨⟨aac.refl _,aac.refl _,aac.refl _⟩,aaf.refl _⟩
  ·obtain⟨a,c⟩:=p;simp only at hp hlt2 ⊢;obtain⟨p1,p2,p3,p4,p5⟩:=hp;have hc:c<l.length-a:=by omega
   have hm:a+c<l.length:=by omega
   rw[wrap1 c p2 (by omega)];simp only[Int.toNat_natCast];have e1:a+(c-1)=a+c-1:=by omega
   rw[e1,aod (by omega:ckA l (a+c)<=a+c),aod (by omega:ckA l (a+c)<=a+c-1)];refine⟨by omega,hm,by omega,by omega,λhe2=>⟨by omega,hm,by omega,by omega,(a,c+1),?_⟩,λhe2=>⟨(a,c+1),?_⟩⟩
   ·have hne:aa5 (l.getD (a+c) sq0) (l.getD (a+c-1) sq0)≠0:=by simpa using he2
    have hck:ckA l (a+(c+1))=ckA l (a+c)+1:=by
     show ckA l (a+c+1)=_;unfold ckA;rw[ac4 (by omega) hm,if_neg hne];simp
    simp only[hck];refine⟨by omega,by omega,⟨aac.wrapL (n:=1000000000000) (by omega) (by omega),aac.refl _,aac.wrapL (n:=1000000000000) (by omega) (by omega)⟩,aaf.row rfl (λj hj=> ?_) (λj _=>adh _ _)⟩;have h9:=arf (j:=j) (by omega) hm hne (by omega);show aan (if j=ckA l (a+c) then _ else _) (sgE (aeG l (a+c+1)) s j);unfold sgE;rw[h9];split
    ·exact aan.refl _
    ·exact aan.refl _
   ·have hne:aa5 (l.getD (a+c) sq0) (l.getD (a+c-1) sq0)=0:=by simpa using he2
    have hd:ady (l.take (a+(c+1)))=ady (l.take (a+c)):=by
     show ady (l.take (a+c+1))=_;rw[ac4 (by omega) hm,if_pos hne]
    have hck:ckA l (a+(c+1))=ckA l (a+c):=by unfold ckA;rw[hd]
    have hmx:aeG l (a+(c+1))=aeG l (a+c):=by unfold aeG;rw[hd]
    simp only[hck,hmx];exact⟨by omega,by omega,⟨aac.refl _,aac.refl _,aac.wrapL (n:=1000000000000) (by omega) (by omega)⟩,aaf.refl _⟩
  ·obtain⟨a,c⟩:=p;simp only at hp hge2 ⊢;obtain⟨p1,p2,p3,p4,p5⟩:=hp;have hm:a+c=l.length:=by omega
   rw[hm] at p4 p5 ⊢;have ht:l.take l.length=l:=List.take_length;have hk:ckA l l.length=(ady l).length:=by unfold ckA;rw[ht]
   refine⟨by omega,by omega,by omega,by omega,aaf.row (by simp[hk]) (λj hj=> ?_) (λj _=>adh _ _)⟩;have hj':j<ckA l l.length:=by simpa using hj
   rw[if_neg (by omega)];have:(aeG l l.length).getD j sq0=(ady l).getD j sq0:=by
    unfold aeG;rw[ht];simp only[List.getD];rw[List.getElem?_append_left (by omega)]
   rw[this];exact aan.refl _
  ·have hne:aa5 (l.getD i sq0) (l.getD (i-1) sq0)≠0:=by simpa using he
   rw[ac4 h1 hlt',if_neg hne,h4,List.take_succ_eq_append_getElem hlt'];simp[List.getD,hlt']
 ·obtain⟨h1,h3,h4⟩:=hi;have:i=l.length:=by omega
  subst this;rw[List.take_length] at h4;rw[h4];exact aaf.refl _
end Go.Proofs.YtcmplpkmfbhpdaaGreat
namespace Go.Proofs.YtcmplpkmfbhpdaaGreat
open Go Go.RowKit Go.Lib Go.Sort Go.Shelf
theorem afT (q p:Rat):abg q p<0↔q<p:=by unfold abg;grind
theorem acn (q p:Rat):abg q p=0↔q=p:=by unfold abg;grind
theorem ahF (q p:Rat):0<abg q p↔p<q:=by unfold abg;grind
def ab7 (p q:Pq):Prop:=p.1<q.1\/(p.1=q.1/\p.2<q.2)
def agA (t u:Sq):Prop:=ab7 t.1 u.1\/(t.1=u.1/\ab7 t.2 u.2)
theorem abP (p q:Pq):abL p q<0↔ab7 p q:=by
 unfold abL aaW ab7;split
 ·rename_i h;rw[afT];have:p.1≠q.1:=λe=>h ((acn _ _).2 e);grind
 ·rename_i h;have:p.1=q.1:=(acn _ _).1 (by omega);rw[afT];grind
theorem abD (p q:Pq):abL p q=0↔p=q:=by
 unfold abL aaW;rw[Prod.ext_iff];split
 ·rename_i h;have:p.1≠q.1:=λe=>h ((acn _ _).2 e);rw[acn];grind
 ·rename_i h;have:p.1=q.1:=(acn _ _).1 (by omega);rw[acn];grind
theorem ac5 (t u:Sq):aa5 t u<0↔agA t u:=by
 unfold aa5 agA;split
 ·rename_i h;have:t.1≠u.1:=λe=>h ((abD _ _).2 e);rw[abP];exact⟨.inl,λh=>h.elim id λh=>absurd h.1 this⟩
 ·rename_i h;have:t.1=u.1:=(abD _ _).1 (by omega);rw[abP];refine⟨λh=> .inr ⟨this,h⟩,λh=>h.elim (λh=> ?_) (λh=>h.2)⟩;rw[this] at h;unfold ab7 at h;grind
theorem afp (t u:Sq):aa5 t u=0↔t=u:=by
 unfold aa5;rw[Prod.ext_iff];split
 ·rename_i h;have:t.1≠u.1:=λe=>h ((abD _ _).2 e);rw[abD];exact⟨λh=>absurd h this,λh=>absurd h.1 this⟩
 ·rename_i h;have:t.1=u.1:=(abD _ _).1 (by omega);rw[abD];exact⟨λh=>⟨this,h⟩,λh=>h.2⟩
theorem aaB (p:Pq):¬ ab7 p p:=by unfold ab7;grind
theorem aaT {p q r:Pq} (h:ab7 p q) (k:ab7 q r):ab7 p r:=by unfold ab7 at *;grind
theorem aa8 (p q:Pq):ab7 p q\/p=q\/ab7 q p:=by
 have:p=q↔p.1=q.1/\p.2=q.2:=Prod.ext_iff;rw[this];unfold ab7;grind
theorem aa0 (t:Sq):¬ agA t t:=by
 rintro (h | h)
 ·exact aaB _ h
 ·exact aaB _ h.2
theorem abc {t u v:Sq} (h:agA t u) (k:agA u v):agA t v:=by
 rcases h with h | ⟨h1,h2⟩
 ·rcases k with k | ⟨k1,k2⟩
  ·exact .inl (aaT h k)
  ·exact .inl (by rw[<- k1];exact h)
 ·rcases k with k | ⟨k1,k2⟩
  ·exact .inl (by rw[h1];exact k)
  ·exact .inr ⟨h1.trans k1,aaT h2 k2⟩
theorem aen (t u:Sq):agA t u\/t=u\/agA u t:=by
 rcases aa8 t.1 u.1 with h | h | h
 ·exact .inl (.inl h)
 ·rcases aa8 t.2 u.2 with k | k | k
  ·exact .inl (.inr ⟨h,k⟩)
  ·exact .inr (.inl (Prod.ext h k))
  ·exact .inr (.inr (.inr ⟨h.symm,k⟩))
 ·exact .inr (.inr (.inl h))
theorem ang {A:Type} {cf:A->A->Int} {lt:A->A->Prop} (h:∀ x y,cf x y<0↔lt x y) (hi:∀ x,¬ lt x x) (ht:∀ x y z,lt x y->lt y z->lt x z) (hn:∀ x y z,¬ lt x y->¬ lt y z->¬ lt x z):SWO (ltOf cf) where
 irrefl x:=by unfold ltOf;rw[decide_eq_false_iff_not,h];exact hi x
 trans x y z h1 h2:=by unfold ltOf at *;rw[decide_eq_true_eq,h] at *;exact ht x y z h1 h2
 ntrans x y z h1 h2:=by unfold ltOf at *;rw[decide_eq_false_iff_not,h] at *;exact hn x y z h1 h2
theorem axh:SWO (ltOf abL):=ang abP aaB (λ_ _ _=>aaT) λx y z h1 h2 h3=>by
 rcases aa8 y x with h | h | h
 ·exact h2 (aaT h h3)
 ·rw[h] at h2;exact h2 h3
 ·exact h1 h
theorem aw0:SWO (ltOf aa5):=ang ac5 aa0 (λ_ _ _=>abc) λx y z h1 h2 h3=>by
 rcases aen y x with h | h | h
 ·exact h2 (abc h h3)
 ·rw[h] at h2;exact h2 h3
 ·exact h1 h
theorem au4 (l:List Sq):SWO (ltOf (ajv l)):=ang (lt:=λi k=>(l.getD i.toNat sq0).1.1<(l.getD k.toNat sq0).1.1) (λi k=>afT _ _) (λx=>Rat.lt_irrefl) (λx y z h1 h2=>by grind) (λx y z h1 h2=>by grind)
instance:Inhabited Pq:=⟨(0,0)⟩
def ay5 (e:Nat->List aaa) (i:Nat):Pq:=match apX (e i) with
 |some [(x,_),(y,_)]=>(x,y)
 |_=>(0,0)
def ar0 (n:Nat) (e:Nat->List aaa):List Pq:=(List.range n).map (ay5 e)
theorem aqS (n:Nat) (e:Nat->List aaa):(ar0 n e).length=n:=by simp[ar0]
theorem afD (p:Pq) (s:Nat):(ptC p s).all aaa.cl=true:=rfl
theorem axc {l:List Pq} {s:Nat} : ar0 l.length (acs l s)=l:=by
 apply List.ext_getElem?;intro i;unfold ar0;rw[List.getElem?_map];rcases Nat.lt_or_ge i l.length with hi | hi
 ·rw[List.getElem?_range hi,List.getElem?_eq_getElem hi];show some (ay5 (acs l s) i)=some l[i];simp only[ay5,acs,qsC,apX,List.getD,List.getElem?_eq_getElem hi,Option.getD_some]
 ·rw[List.getElem?_eq_none (by simpa using hi),List.getElem?_eq_none hi];rfl
theorem air {l:List Sq} {s:Nat} : abt l.length (sgE l s)=l:=by
 apply List.ext_getElem?;intro i;unfold abt;rw[List.getElem?_map];rcases Nat.lt_or_ge i l.length with hi | hi
 ·rw[List.getElem?_range hi,List.getElem?_eq_getElem hi];show some (avS (sgE l s) i).1=some l[i];simp only[avS,sgE,sqC,qsC,apX,List.getD,List.getElem?_eq_getElem hi,Option.getD_some]
 ·rw[List.getElem?_eq_none (by simpa using hi),List.getElem?_eq_none hi];rfl
theorem apr (n:Nat) (e:Nat->List aaa):(acU n e).length=n:=by simp[acU]
def ajK (s:Nat):Run:=λb avs _=>match avs with
 |[.s false [.hd k],.s false [.clo g []]]=>match b k with
  |some (.row T 8 n e)=>match Nat.beq g 22 && Nat.beq T 41 with
   |true=>some { val:=some (.tup []),set:=[(k,.rowP 41 8 n λe'=>∃ l':List Pq,l'.Perm (ar0 n e)/\l'.Pairwise (λp q=>¬ abL q p<0)/\e'=acs l' s)],ps:=[∀ i,i<n->aan (e i) (acs (ar0 n e) s i),s<=50000/\n<=1000000000000] }
   |false=>none
  |_=>none
 |_=>none
def ajJ (s:Nat):Run:=λb avs _=>match avs with
 |[.s false [.hd k],.s false [.clo g []]]=>match b k with
  |some (.row T 16 n e)=>match Nat.beq g 51 && Nat.beq T 43 with
   |true=>some { val:=some (.tup []),set:=[(k,.rowP 43 16 n λe'=>∃ l':List Sq,l'.Perm (abt n e)/\l'.Pairwise (λp q=>¬ aa5 q p<0)/\e'=sgE l' s)],ps:=[∀ i,i<n->aan (e i) (sgE (abt n e) s i),s<=50000/\n<=1000000000000] }
   |false=>none
  |_=>none
 |_=>none
def ajL (s:Nat):Run:=λb avs _=>match avs with
 |[.s false [.hd k],.s false [.clo g [.own kb 0]]]=>match b k,b kb with
  |some (.row T 1 n e),some (.st _ [.hd kr])=>match b kr with
   |some (.row _ 16 m eb)=>match Nat.beq g 46 && Nat.beq T 3 with
    |true=>some { val:=some (.tup []),set:=[(k,.rowP 3 1 n λe'=>∃ l':List Int,l'.Perm (acU n e)/\l'.Pairwise (λi j=>¬ ajv (abt m eb) j i<0)/\e'=afz l')],ps:=[∀ i,i<n->aan (e i) (afz (acU n e) i),∀ x∈acU n e,0<=x/\x<(m:Int),aac (.s false [.row 16 m eb]) (.s false [.row 16 (abt m eb).length (sgE (abt m eb) s)]),s<=50000/\n<=20] }
    |false=>none
   |_=>none
  |_,_=>none
 |_=>none
theorem aoP (D:Prop) (s B:Nat):aai Tryz.prog D B 49 (ajK s):=by
 refine⟨by kernel_rfl,λb avs t e h hp G F w vs V hvs=> ?_⟩;unfold ajK at h;split at h
 ·rename_i k g;split at h
  ·rename_i T n e hb;split at h
   ·rename_i hc;cases h;rw[Bool.and_eq_true] at hc;have:=aaq hc.1;subst this;have:=aaq hc.2;subst this;obtain⟨hp1,⟨hp2,hp3⟩,_⟩:=hp;refine af2 (cof:=λp:Pq=>ptC p s) (caps:=[]) (V:=λ_=>True) (λa=>afD a s) (λ_=>rfl) (λh=>by cases h) aqA amm (afL True B) axh hb (aqS n e) (λi hi=>hp1 i hi) (by omega) (λ_ _=>trivial) (λx y _ _=>⟨_,rfl,⟨aan.refl _,aan.refl _,⟨hp2,hp2,hp2,hp2⟩,trivial⟩,rfl,rfl,rfl⟩) V hvs (λe' he'=>he') rfl rfl
   ·cases h
  ·cases h
 ·cases h
theorem aoO (D:Prop) (s B:Nat):aai Tryz.prog D B 50 (ajJ s):=by
 refine⟨by kernel_rfl,λb avs t e h hp G F w vs V hvs=> ?_⟩;unfold ajJ at h;split at h
 ·rename_i k g;split at h
  ·rename_i T n e hb;split at h
   ·rename_i hc;cases h;rw[Bool.and_eq_true] at hc;have:=aaq hc.1;subst this;have:=aaq hc.2;subst this;obtain⟨hp1,⟨hp2,hp3⟩,_⟩:=hp;have hmx:max (mx4 s s s s) (mx4 s s s s)<=50000:=by unfold mx4;omega
    refine af2 (cof:=λp:Sq=>sqC p s) (caps:=[]) (V:=λ_=>True) (λa=>adh a s) (λ_=>rfl) (λh=>by cases h) aqz aml (alo True B) aw0 hb (acy n e) (λi hi=>hp1 i hi) (by omega) (λ_ _=>trivial) (λx y _ _=>⟨_,rfl,⟨aan.refl _,aan.refl _,hmx,trivial⟩,rfl,rfl,rfl⟩) V hvs (λe' he'=>he') rfl rfl
   ·cases h
  ·cases h
 ·cases h
theorem aoQ (D:Prop) (s B:Nat):aai Tryz.prog D B 45 (ajL s):=by
 refine⟨by kernel_rfl,λb avs t e h hp G F w vs V hvs=> ?_⟩;unfold ajL at h;split at h
 ·rename_i k g kb;split at h
  ·rename_i T n e Tb kr hb hbb;split at h
   ·rename_i Tr m eb hbr;split at h
    ·rename_i hc;cases h;rw[Bool.and_eq_true] at hc;have:=aaq hc.1;subst this;have:=aaq hc.2;subst this;obtain⟨hp1,hp2,hp3,⟨hp4,hp5⟩,_⟩:=hp;have hkb:kb≠k:=λe=>by rw[e,hb] at hbb;cases hbb
     have hkr:kr≠k:=λe=>by rw[e,hb] at hbr;cases hbr
     refine af2 (cof:=λx:Int=>[.v (.int .i64 x)]) (caps:=[.own kb 0]) (V:=λx:Int=>0<=x/\x<(m:Int)) (λa=>rfl) (λ_=>rfl) (λ_=>rfl) aqB amn (aek (axL True s) B) (au4 (abt m eb)) hb (apr n e) (λi hi=>hp1 i hi) (by omega) hp2 (λx y hx hy=> ?_) V hvs (λe' he'=>he') rfl rfl;have e1:ain (aaF (azh s)) (λj=>if j=k then none else b j) [.s false [.v (.int .i64 x)],.s false [.v (.int .i64 y)],.s false [.own kb 0]] 0=some { val:=some (.s false [.v (.int .i64 (ajv (abt m eb) x y))]),ps:=[(0<=x/\x<(m:Int))/\0<=y/\y<(m:Int),aac (.s false [.row 16 m eb]) (.s false [.row 16 (abt m eb).length (sgE (abt m eb) s)]),s<=50000] } :=by
      have f1:am1 (λj=>if j=k then none else b j) (.own kb 0)= .el 1 1 (λ_=>[.row 16 m eb]) 0 0:=by
       simp only[am1,if_neg hkb,hbb,List.map_cons,List.map_nil,ae3,if_neg hkr,hbr];rfl
      unfold ain;simp only[List.map_cons,List.map_nil,aip,f1];rfl
     exact⟨_,e1,⟨⟨hx,hy⟩,hp3,hp4,trivial⟩,rfl,rfl,rfl⟩
    ·cases h
   ·cases h
  ·cases h
 ·cases h
set_option maxRecDepth 100000 in
theorem avz (D:Prop) (s B:Nat):aai Tryz.prog D B 52 (atG s):=by
 refine anC (c:=Tryz.f52.body.getD .skip) (aau (ayg D)) (by kernel_rfl) Tryz.func52 (by kernel_rfl) (by kernel_rfl) ?_ B;intro b avs t e h hp;unfold atG at h;split at h
 ·rename_i k g;split at h
  ·rename_i T n e hb;split at h
   ·rename_i hc;cases h;rw[Bool.and_eq_true] at hc;have:=aaq hc.1;subst this;have:=aaq hc.2;subst this;obtain⟨hp1,⟨hp2,hp3⟩,_⟩:=hp;have hl:=acy n e;have hle1:(abt n e).length<=1000000000000:=by rw[hl];exact hp3
    have hp2':s<=50000:=hp2;have hset1:∃ b',lk [(t,aae.row 43 16 (ady (abt n e)).length (sgE (ady (abt n e)) s))] t=some b':=⟨_,by simp only[lk,Nat.beq_refl];rfl⟩
    exact⟨{
     σ :=[(1000000,k)]
     ρ :=[(90,t)]
     avs':=[.s false [.hd 1000000],.s false [.clo 53 []]]
     blks:=[(1000000,.row 43 16 (abt n e).length (sgE (abt n e) s))]
     inv:=[(4,aou (abt n e) s),(9,aot (abt n e) s),(1000002,pre [] [.ren 1000000 90]),(1000015,pre [] [.cut 4 90]),(1000016,pre [] [.ren 1000000 90])]
     val:= .s false [.hd 90]
     kb:=[(90,.row 43 16 (ady (abt n e)).length (sgE (ady (abt n e)) s))]
     hval:=rfl
     hset:=λx b' h=>by obtain⟨rfl,rfl⟩:=aaO h;exact⟨90,_,rfl,rfl,rfl⟩
     hkb:=λj x h=>by
      obtain⟨rfl,rfl⟩:=aaO h;exact⟨_,rfl,rfl,(λk hk=>by cases hk),hset1⟩
     hvn:=λk hk=>by
      have:k=90:=by simpa[AV.nm,aaa.nm,aaa.nm0] using hk
      subst this;exact⟨t,rfl⟩
     hρ :=λj j' x h1 h2=>(aaO h1).1.symm.trans (aaO h2).1
     hσ :=λj j' x h1 h2=>(aaO h1).1.symm.trans (aaO h2).1
     hhi:=λj x h=>by obtain⟨e,_⟩:=aaO h;omega
     hnw:=λj x h=>by obtain⟨_,rfl⟩:=aaO h;exact .inl (List.mem_singleton.2 rfl)
     hold:=λj x h=>by obtain⟨_,rfl⟩:=aaO h;exact .inr (List.mem_singleton.2 rfl)
     hle:=aaj.refl _
     hlen:=by rw[Tryz.ntmps52];simp
     hblk:=λj b0 h=>by
      obtain⟨rfl,rfl⟩:=aaO h;exact⟨rfl,k,rfl,_,hb,aaf.row hl.symm hp1 (λi _=>adh _ _)⟩
     hvc:=by
      exact apI (abt n e) s hle1 hp2' }⟩
   ·cases h
  ·cases h
 ·cases h
end Go.Proofs.YtcmplpkmfbhpdaaGreat
