/-
  split: boxes, the order of pieces. (Printed by gen_spa.py.)
-/
import Derived.Test.YtmagoiniahpofaaGreatSyD
import Derived.Test.YtmagoiniahpofaaGreatSyE
import Derived.Test.YtmagoiniahpofaaGreatSrX
import Derived.Test.YtmagoiniahpofaaGreatSri
import Derived.Test.YtmagoiniahpofaaGreatGC
namespace Go.Proofs.YtmagoiniahpofaaGreat
open Go Go.RowKit
abbrev Pq:Type:=Rat × Rat
abbrev Sq:Type:=Pq × Pq
def sq0:Sq:=((0,0),(0,0))
def cmpPq (p q:Pq):Int:=cmpP2 p.1 p.2 q.1 q.2
def cmpSq (t u:Sq):Int:=if cmpPq t.1 u.1≠0 then cmpPq t.1 u.1 else cmpPq t.2 u.2
def sqC (t:Sq) (s:Nat):List Cell:=qsC [(t.1.1,s),(t.1.2,s),(t.2.1,s),(t.2.2,s)]
def sgE (l:List Sq) (s:Nat):Nat→List Cell:=fun i=>sqC (l.getD i sq0) s
def sgAt (e:Nat→List Cell) (i:Nat):Sq × Nat:=match qsOf (e i) with
 |some [(a,s),(b,t),(c,u),(d,v)]=>(((a,b),(c,d)),max (max s t) (max u v))
 |_=>(sq0,1)
def sgsL (n:Nat) (e:Nat→List Cell):List Sq:=(List.range n).map fun i=>(sgAt e i).1
def gBx:List (Nat × Run):=[(36,readC (runC leastS)),(37,readC (runC mostS))]
theorem gBx_ok (D:Prop):∀ p∈gBx,∀ B,RunOK Tryz.prog D B p.1 p.2:=ctx_cons (readC_ok (least_ok D)) (ctx_cons (readC_ok (most_ok D)) fun p hp=>by cases hp)
def mx2 (s:Nat):Nat:=max (max 1 s) s
def lo2 (x y:Rat):Rat:=bestR ltR [x,y]
def hi2 (x y:Rat):Rat:=bestR gtR [x,y]
def boxQ (t:Sq):Sq:=((lo2 t.1.1 t.2.1,lo2 t.1.2 t.2.2),(hi2 t.1.1 t.2.1,hi2 t.1.2 t.2.2))
theorem boxOf_vc (t:Sq) (s:Nat):vc Tryz.prog (lk gBx) Tryz.f11.ntmps [] (Tryz.f11.body.getD .skip) ⟨entryS [.s true (sqC t s)] 0,[]⟩ (retVC Tryz.prog Tryz.f11.results.toList (.s true (sqC (boxQ t) (mx2 s))))=(AVle (AV.s false [Cell.row 4 2 fun (i:Nat)=>List.getD [(qsC [(Prod.fst (Prod.fst t),s)]),(qsC [(Prod.fst (Prod.snd t),s)])] i []]) (AV.s false [Cell.row 4 2 (ratsE [Prod.fst (Prod.fst t),Prod.fst (Prod.snd t)] (mx2 s))])∧(2≤1000000∧(1≤mx2 s)∧(mx2 s)≤50000)∧AVle (AV.s false [Cell.row 4 2 fun (i:Nat)=>List.getD [(qsC [(Prod.snd (Prod.fst t),s)]),(qsC [(Prod.snd (Prod.snd t),s)])] i []]) (AV.s false [Cell.row 4 2 (ratsE [Prod.snd (Prod.fst t),Prod.snd (Prod.snd t)] (mx2 s))])∧(2≤1000000∧(1≤mx2 s)∧(mx2 s)≤50000)∧AVle (AV.s false [Cell.row 4 2 fun (i:Nat)=>List.getD [(qsC [(Prod.fst (Prod.fst t),s)]),(qsC [(Prod.fst (Prod.snd t),s)])] i []]) (AV.s false [Cell.row 4 2 (ratsE [Prod.fst (Prod.fst t),Prod.fst (Prod.snd t)] (mx2 s))])∧(2≤1000000∧(1≤mx2 s)∧(mx2 s)≤50000)∧AVle (AV.s false [Cell.row 4 2 fun (i:Nat)=>List.getD [(qsC [(Prod.snd (Prod.fst t),s)]),(qsC [(Prod.snd (Prod.snd t),s)])] i []]) (AV.s false [Cell.row 4 2 (ratsE [Prod.snd (Prod.fst t),Prod.snd (Prod.snd t)] (mx2 s))])∧(2≤1000000∧(1≤mx2 s)∧(mx2 s)≤50000)∧AVle (AV.s true (qsC [(lo2 (Prod.fst (Prod.fst t)) (Prod.fst (Prod.snd t)),mx2 s),(lo2 (Prod.snd (Prod.fst t)) (Prod.snd (Prod.snd t)),mx2 s),(hi2 (Prod.fst (Prod.fst t)) (Prod.fst (Prod.snd t)),mx2 s),(hi2 (Prod.snd (Prod.fst t)) (Prod.snd (Prod.snd t)),mx2 s)])) (AV.s true (qsC [(Prod.fst (lo2 (Prod.fst (Prod.fst t)) (Prod.fst (Prod.snd t)),lo2 (Prod.snd (Prod.fst t)) (Prod.snd (Prod.snd t))),mx2 s),(Prod.snd (lo2 (Prod.fst (Prod.fst t)) (Prod.fst (Prod.snd t)),lo2 (Prod.snd (Prod.fst t)) (Prod.snd (Prod.snd t))),mx2 s),(Prod.fst (hi2 (Prod.fst (Prod.fst t)) (Prod.fst (Prod.snd t)),hi2 (Prod.snd (Prod.fst t)) (Prod.snd (Prod.snd t))),mx2 s),(Prod.snd (hi2 (Prod.fst (Prod.fst t)) (Prod.fst (Prod.snd t)),hi2 (Prod.snd (Prod.fst t)) (Prod.snd (Prod.snd t))),mx2 s)]))):=by kernel_rfl
def mx4 (a b c d:Nat):Nat:=max (max a b) (max c d)
theorem sqC_le {t u:Sq} {s1 s2 s3 s4 s:Nat} (h:t=u) (h1:s1≤s∧s2≤s∧s3≤s∧s4≤s):CsLe (qsC [(t.1.1,s1),(t.1.2,s2),(t.2.1,s3),(t.2.2,s4)]) (sqC u s):=by
 subst h
 exact CsLe.q4 ⟨⟨rfl,h1.1⟩,⟨rfl,h1.2.1⟩,⟨rfl,h1.2.2.1⟩,⟨rfl,h1.2.2.2⟩⟩
theorem mx4_le (a b c d:Nat):a≤mx4 a b c d∧b≤mx4 a b c d∧c≤mx4 a b c d∧d≤mx4 a b c d:=by unfold mx4;omega
def boxOfS:Spec
 |[.q [(x1,s1),(y1,t1),(x2,s2),(y2,t2)]]=>some (.s true (sqC (boxQ ((x1,y1),(x2,y2))) (mx2 (mx4 s1 t1 s2 t2))),[mx4 s1 t1 s2 t2≤50000])
 |_=>none
theorem boxOf_ok (D:Prop) (B:Nat):RunOK Tryz.prog D B 11 (runC boxOfS):=by
 refine fn_specR (c:=Tryz.f11.body.getD .skip) (ctx_ok (gBx_ok D)) (by kernel_rfl) Tryz.func11 (by kernel_rfl) (by kernel_rfl) ?_ B
 intro pvs av ps h hp
 unfold boxOfS at h
 split at h
 ·rename_i x1 s1 y1 t1 x2 s2 y2 t2
  cases h
  obtain⟨hs,-⟩:=hp
  have hm:=mx4_le s1 t1 s2 t2
  generalize mx4 s1 t1 s2 t2=s at *
  refine⟨[.s true (sqC ((x1,y1),(x2,y2)) s)],[],AvsLe.cons (AVle.s (sqC_le (t:=((x1,y1),(x2,y2))) rfl hm)) AvsLe.nil,by rw[Tryz.ntmps11];simp,?_⟩
  rw[boxOf_vc]
  have b1:1≤mx2 s:=by unfold mx2;omega
  have b2:mx2 s≤50000:=by unfold mx2;omega
  have b3:(2:Nat)≤1000000:=by omega
  have b4:s≤mx2 s:=by unfold mx2;omega
  have row:∀ x y:Rat,AVle (.s false [.row 4 2 fun i=>[qsC [(x,s)],qsC [(y,s)]].getD i []]) (.s false [.row 4 2 (ratsE [x,y] (mx2 s))]):=fun x y=>AVle.rats (l:=[(x,s),(y,s)]) (S:=mx2 s) (by intro p hp;simp only[List.mem_cons,List.not_mem_nil,or_false] at hp;rcases hp with rfl | rfl<;>exact b4)
  exact⟨row _ _,⟨b3,b1,b2⟩,row _ _,⟨b3,b1,b2⟩,row _ _,⟨b3,b1,b2⟩,row _ _,⟨b3,b1,b2⟩,AVle.refl _⟩
 ·cases h
theorem order_vc (t u:Sq) (s:Nat):vc Tryz.prog (lk gQ) Tryz.f18.ntmps [] (Tryz.f18.body.getD .skip) ⟨entryS [.s true (sqC t s),.s true (sqC u s)] 0,[]⟩ (retVC Tryz.prog Tryz.f18.results.toList (.s false [.v (.int .i64 (cmpSq t u))]))=(SmC (qsC [(Prod.fst (Prod.fst t),s),(Prod.snd (Prod.fst t),s)])∧SmC (qsC [(Prod.fst (Prod.fst u),s),(Prod.snd (Prod.fst u),s)])∧(s≤50000∧s≤50000∧s≤50000∧s≤50000)∧((cmpP2 (Prod.fst (Prod.fst t)) (Prod.snd (Prod.fst t)) (Prod.fst (Prod.fst u)) (Prod.snd (Prod.fst u)) != (0:Int))=true→AVle (AV.s false [Cell.v (Value.int IntKind.i64 (cmpP2 (Prod.fst (Prod.fst t)) (Prod.snd (Prod.fst t)) (Prod.fst (Prod.fst u)) (Prod.snd (Prod.fst u))))]) (AV.s false [Cell.v (Value.int IntKind.i64 (cmpSq t u))]))∧((cmpP2 (Prod.fst (Prod.fst t)) (Prod.snd (Prod.fst t)) (Prod.fst (Prod.fst u)) (Prod.snd (Prod.fst u)) != (0:Int))=false→SmC (qsC [(Prod.fst (Prod.snd t),s),(Prod.snd (Prod.snd t),s)])∧SmC (qsC [(Prod.fst (Prod.snd u),s),(Prod.snd (Prod.snd u),s)])∧(s≤50000∧s≤50000∧s≤50000∧s≤50000)∧AVle (AV.s false [Cell.v (Value.int IntKind.i64 (cmpP2 (Prod.fst (Prod.snd t)) (Prod.snd (Prod.snd t)) (Prod.fst (Prod.snd u)) (Prod.snd (Prod.snd u))))]) (AV.s false [Cell.v (Value.int IntKind.i64 (cmpSq t u))]))):=by kernel_rfl
def orderS:Spec
 |[.q [(x1,s1),(y1,t1),(x2,s2),(y2,t2)],.q [(x3,s3),(y3,t3),(x4,s4),(y4,t4)]]=>some (.s false [.v (.int .i64 (cmpSq ((x1,y1),(x2,y2)) ((x3,y3),(x4,y4))))],[max (mx4 s1 t1 s2 t2) (mx4 s3 t3 s4 t4)≤50000])
 |_=>none
theorem order_ok (D:Prop) (B:Nat):RunOK Tryz.prog D B 18 (runC orderS):=by
 refine fn_specR (c:=Tryz.f18.body.getD .skip) (ctx_ok (gQ_ok D)) (by kernel_rfl) Tryz.func18 (by kernel_rfl) (by kernel_rfl) ?_ B
 intro pvs av ps h hp
 unfold orderS at h
 split at h
 ·rename_i x1 s1 y1 t1 x2 s2 y2 t2 x3 s3 y3 t3 x4 s4 y4 t4
  cases h
  obtain⟨hs,-⟩:=hp
  have hm:=mx4_le s1 t1 s2 t2
  have hn:=mx4_le s3 t3 s4 t4
  have hm':s1≤max (mx4 s1 t1 s2 t2) (mx4 s3 t3 s4 t4)∧t1≤max (mx4 s1 t1 s2 t2) (mx4 s3 t3 s4 t4)∧s2≤max (mx4 s1 t1 s2 t2) (mx4 s3 t3 s4 t4)∧t2≤max (mx4 s1 t1 s2 t2) (mx4 s3 t3 s4 t4):=by omega
  have hn':s3≤max (mx4 s1 t1 s2 t2) (mx4 s3 t3 s4 t4)∧t3≤max (mx4 s1 t1 s2 t2) (mx4 s3 t3 s4 t4)∧s4≤max (mx4 s1 t1 s2 t2) (mx4 s3 t3 s4 t4)∧t4≤max (mx4 s1 t1 s2 t2) (mx4 s3 t3 s4 t4):=by omega
  clear hm hn
  generalize max (mx4 s1 t1 s2 t2) (mx4 s3 t3 s4 t4)=s at *
  refine⟨[.s true (sqC ((x1,y1),(x2,y2)) s),.s true (sqC ((x3,y3),(x4,y4)) s)],[],AvsLe.cons (AVle.s (sqC_le (t:=((x1,y1),(x2,y2))) rfl hm')) (AvsLe.cons (AVle.s (sqC_le (t:=((x3,y3),(x4,y4))) rfl hn')) AvsLe.nil),by rw[Tryz.ntmps18];simp,?_⟩
  clear hm' hn'
  generalize (((x1,y1),(x2,y2)):Sq)=t
  generalize (((x3,y3),(x4,y4)):Sq)=u
  rw[order_vc]
  simp only[SmC,cs_refl,true_and]
  refine⟨by omega,fun h=>AVle.int ?_,fun h=>⟨by omega,AVle.int ?_⟩⟩
  ·unfold cmpSq cmpPq
   rw[if_pos (by simpa using h)]
  ·unfold cmpSq cmpPq
   rw[if_neg (by simpa using h)]
 ·cases h
def gOr:List (Nat × Run):=(18,runC orderS)::gO
theorem gOr_ok (D:Prop):∀ p∈gOr,∀ B,RunOK Tryz.prog D B p.1 p.2:=ctx_cons (order_ok D) (gO_ok D)
theorem eqSg_vc (t u:Sq) (s:Nat):vc Tryz.prog (lk gOr) Tryz.f20.ntmps [] (Tryz.f20.body.getD .skip) ⟨entryS [.s true (sqC t s),.s true (sqC u s)] 0,[]⟩ (retVC Tryz.prog Tryz.f20.results.toList (.s false [.v (.bool (cmpSq t u == 0))]))=(SmC (qsC [(Prod.fst (Prod.fst t),s),(Prod.snd (Prod.fst t),s),(Prod.fst (Prod.snd t),s),(Prod.snd (Prod.snd t),s)])∧SmC (qsC [(Prod.fst (Prod.fst u),s),(Prod.snd (Prod.fst u),s),(Prod.fst (Prod.snd u),s),(Prod.snd (Prod.snd u),s)])∧max (mx4 s s s s) (mx4 s s s s)≤50000∧AVle (AV.s false [Cell.v (Value.bool (cmpSq ((Prod.fst (Prod.fst t),Prod.snd (Prod.fst t)),Prod.fst (Prod.snd t),Prod.snd (Prod.snd t)) ((Prod.fst (Prod.fst u),Prod.snd (Prod.fst u)),Prod.fst (Prod.snd u),Prod.snd (Prod.snd u)) == (0:Int)))]) (AV.s false [Cell.v (Value.bool (cmpSq t u == (0:Int)))])):=by kernel_rfl
def eqSgS:Spec
 |[.q [(x1,s1),(y1,t1),(x2,s2),(y2,t2)],.q [(x3,s3),(y3,t3),(x4,s4),(y4,t4)]]=>some (.s false [.v (.bool (cmpSq ((x1,y1),(x2,y2)) ((x3,y3),(x4,y4)) == 0))],[max (mx4 s1 t1 s2 t2) (mx4 s3 t3 s4 t4)≤50000])
 |_=>none
theorem eqSg_ok (D:Prop) (B:Nat):RunOK Tryz.prog D B 20 (runC eqSgS):=by
 refine fn_specR (c:=Tryz.f20.body.getD .skip) (ctx_ok (gOr_ok D)) (by kernel_rfl) Tryz.func20 (by kernel_rfl) (by kernel_rfl) ?_ B
 intro pvs av ps h hp
 unfold eqSgS at h
 split at h
 ·rename_i x1 s1 y1 t1 x2 s2 y2 t2 x3 s3 y3 t3 x4 s4 y4 t4
  cases h
  obtain⟨hs,-⟩:=hp
  have hm:=mx4_le s1 t1 s2 t2
  have hn:=mx4_le s3 t3 s4 t4
  have hm':s1≤max (mx4 s1 t1 s2 t2) (mx4 s3 t3 s4 t4)∧t1≤max (mx4 s1 t1 s2 t2) (mx4 s3 t3 s4 t4)∧s2≤max (mx4 s1 t1 s2 t2) (mx4 s3 t3 s4 t4)∧t2≤max (mx4 s1 t1 s2 t2) (mx4 s3 t3 s4 t4):=by omega
  have hn':s3≤max (mx4 s1 t1 s2 t2) (mx4 s3 t3 s4 t4)∧t3≤max (mx4 s1 t1 s2 t2) (mx4 s3 t3 s4 t4)∧s4≤max (mx4 s1 t1 s2 t2) (mx4 s3 t3 s4 t4)∧t4≤max (mx4 s1 t1 s2 t2) (mx4 s3 t3 s4 t4):=by omega
  clear hm hn
  generalize max (mx4 s1 t1 s2 t2) (mx4 s3 t3 s4 t4)=s at *
  refine⟨[.s true (sqC ((x1,y1),(x2,y2)) s),.s true (sqC ((x3,y3),(x4,y4)) s)],[],AvsLe.cons (AVle.s (sqC_le (t:=((x1,y1),(x2,y2))) rfl hm')) (AvsLe.cons (AVle.s (sqC_le (t:=((x3,y3),(x4,y4))) rfl hn')) AvsLe.nil),by rw[Tryz.ntmps20];simp,?_⟩
  clear hm' hn'
  generalize (((x1,y1),(x2,y2)):Sq)=t
  generalize (((x3,y3),(x4,y4)):Sq)=u
  rw[eqSg_vc]
  simp only[SmC,cs_refl,av_refl,true_and,and_true]
  unfold mx4
  omega
 ·cases h
def meetsQ (b c:Sq):Bool:=decide (cmpR b.1.1 c.2.1≤0) && decide (cmpR c.1.1 b.2.1≤0) && decide (cmpR b.1.2 c.2.2≤0) && decide (cmpR c.1.2 b.2.2≤0)
theorem meets_vc (t u:Sq) (s:Nat):vc Tryz.prog (lk gO) Tryz.f15.ntmps [] (Tryz.f15.body.getD .skip) ⟨entryS [.s true (sqC t s),.s true (sqC u s)] 0,[]⟩ (retVC Tryz.prog Tryz.f15.results.toList (.s false [.v (.bool (meetsQ t u))]))=((decide (cmpR (Prod.fst (Prod.fst t)) (Prod.fst (Prod.snd u))≤(0:Int))=true→(decide (cmpR (Prod.fst (Prod.fst u)) (Prod.fst (Prod.snd t))≤(0:Int))=true→(decide (cmpR (Prod.snd (Prod.fst t)) (Prod.snd (Prod.snd u))≤(0:Int))=true→SmC (qsC [(Prod.fst (Prod.fst t),s)])∧SmC (qsC [(Prod.fst (Prod.snd u),s)])∧(s≤50000∧s≤50000)∧decide (cmpR (Prod.fst (Prod.fst t)) (Prod.fst (Prod.snd u))≤(0:Int))=true∧SmC (qsC [(Prod.fst (Prod.fst u),s)])∧SmC (qsC [(Prod.fst (Prod.snd t),s)])∧(s≤50000∧s≤50000)∧decide (cmpR (Prod.fst (Prod.fst u)) (Prod.fst (Prod.snd t))≤(0:Int))=true∧SmC (qsC [(Prod.snd (Prod.fst t),s)])∧SmC (qsC [(Prod.snd (Prod.snd u),s)])∧(s≤50000∧s≤50000)∧decide (cmpR (Prod.snd (Prod.fst t)) (Prod.snd (Prod.snd u))≤(0:Int))=true∧SmC (qsC [(Prod.snd (Prod.fst u),s)])∧SmC (qsC [(Prod.snd (Prod.snd t),s)])∧(s≤50000∧s≤50000)∧AVle (AV.s false [Cell.v (Value.bool (decide (cmpR (Prod.snd (Prod.fst u)) (Prod.snd (Prod.snd t))≤(0:Int))))]) (AV.s false [Cell.v (Value.bool (meetsQ t u))]))∧(decide (cmpR (Prod.snd (Prod.fst t)) (Prod.snd (Prod.snd u))≤(0:Int))=false→SmC (qsC [(Prod.fst (Prod.fst t),s)])∧SmC (qsC [(Prod.fst (Prod.snd u),s)])∧(s≤50000∧s≤50000)∧decide (cmpR (Prod.fst (Prod.fst t)) (Prod.fst (Prod.snd u))≤(0:Int))=true∧SmC (qsC [(Prod.fst (Prod.fst u),s)])∧SmC (qsC [(Prod.fst (Prod.snd t),s)])∧(s≤50000∧s≤50000)∧decide (cmpR (Prod.fst (Prod.fst u)) (Prod.fst (Prod.snd t))≤(0:Int))=true∧SmC (qsC [(Prod.snd (Prod.fst t),s)])∧SmC (qsC [(Prod.snd (Prod.snd u),s)])∧(s≤50000∧s≤50000)∧decide (cmpR (Prod.snd (Prod.fst t)) (Prod.snd (Prod.snd u))≤(0:Int))=false∧AVle (AV.s false [Cell.f]) (AV.s false [Cell.v (Value.bool (meetsQ t u))])))∧(decide (cmpR (Prod.fst (Prod.fst u)) (Prod.fst (Prod.snd t))≤(0:Int))=false→SmC (qsC [(Prod.fst (Prod.fst t),s)])∧SmC (qsC [(Prod.fst (Prod.snd u),s)])∧(s≤50000∧s≤50000)∧decide (cmpR (Prod.fst (Prod.fst t)) (Prod.fst (Prod.snd u))≤(0:Int))=true∧SmC (qsC [(Prod.fst (Prod.fst u),s)])∧SmC (qsC [(Prod.fst (Prod.snd t),s)])∧(s≤50000∧s≤50000)∧decide (cmpR (Prod.fst (Prod.fst u)) (Prod.fst (Prod.snd t))≤(0:Int))=false∧AVle (AV.s false [Cell.f]) (AV.s false [Cell.v (Value.bool (meetsQ t u))])))∧(decide (cmpR (Prod.fst (Prod.fst t)) (Prod.fst (Prod.snd u))≤(0:Int))=false→SmC (qsC [(Prod.fst (Prod.fst t),s)])∧SmC (qsC [(Prod.fst (Prod.snd u),s)])∧(s≤50000∧s≤50000)∧decide (cmpR (Prod.fst (Prod.fst t)) (Prod.fst (Prod.snd u))≤(0:Int))=false∧AVle (AV.s false [Cell.f]) (AV.s false [Cell.v (Value.bool (meetsQ t u))]))):=by kernel_rfl
def meetsS:Spec
 |[.q [(x1,s1),(y1,t1),(x2,s2),(y2,t2)],.q [(x3,s3),(y3,t3),(x4,s4),(y4,t4)]]=>some (.s false [.v (.bool (meetsQ ((x1,y1),(x2,y2)) ((x3,y3),(x4,y4))))],[max (mx4 s1 t1 s2 t2) (mx4 s3 t3 s4 t4)≤50000])
 |_=>none
theorem meets_ok (D:Prop) (B:Nat):RunOK Tryz.prog D B 15 (runC meetsS):=by
 refine fn_specR (c:=Tryz.f15.body.getD .skip) (ctx_ok (gO_ok D)) (by kernel_rfl) Tryz.func15 (by kernel_rfl) (by kernel_rfl) ?_ B
 intro pvs av ps h hp
 unfold meetsS at h
 split at h
 ·rename_i x1 s1 y1 t1 x2 s2 y2 t2 x3 s3 y3 t3 x4 s4 y4 t4
  cases h
  obtain⟨hs,-⟩:=hp
  have hm:=mx4_le s1 t1 s2 t2
  have hn:=mx4_le s3 t3 s4 t4
  have hm':s1≤max (mx4 s1 t1 s2 t2) (mx4 s3 t3 s4 t4)∧t1≤max (mx4 s1 t1 s2 t2) (mx4 s3 t3 s4 t4)∧s2≤max (mx4 s1 t1 s2 t2) (mx4 s3 t3 s4 t4)∧t2≤max (mx4 s1 t1 s2 t2) (mx4 s3 t3 s4 t4):=by omega
  have hn':s3≤max (mx4 s1 t1 s2 t2) (mx4 s3 t3 s4 t4)∧t3≤max (mx4 s1 t1 s2 t2) (mx4 s3 t3 s4 t4)∧s4≤max (mx4 s1 t1 s2 t2) (mx4 s3 t3 s4 t4)∧t4≤max (mx4 s1 t1 s2 t2) (mx4 s3 t3 s4 t4):=by omega
  clear hm hn
  generalize max (mx4 s1 t1 s2 t2) (mx4 s3 t3 s4 t4)=s at *
  refine⟨[.s true (sqC ((x1,y1),(x2,y2)) s),.s true (sqC ((x3,y3),(x4,y4)) s)],[],AvsLe.cons (AVle.s (sqC_le (t:=((x1,y1),(x2,y2))) rfl hm')) (AvsLe.cons (AVle.s (sqC_le (t:=((x3,y3),(x4,y4))) rfl hn')) AvsLe.nil),by rw[Tryz.ntmps15];simp,?_⟩
  clear hm' hn'
  generalize (((x1,y1),(x2,y2)):Sq)=t
  generalize (((x3,y3),(x4,y4)):Sq)=u
  rw[meets_vc]
  simp only[SmC,cs_refl,true_and]
  have b:s≤50000∧s≤50000:=by omega
  refine⟨fun h1=>⟨fun h2=>⟨fun h3=>⟨b,h1,b,h2,b,h3,b,AVle.bool ?_⟩,fun h3=>⟨b,h1,b,h2,b,h3,AVle.ff ?_⟩⟩,fun h2=>⟨b,h1,b,h2,AVle.ff ?_⟩⟩,fun h1=>⟨b,h1,AVle.ff ?_⟩⟩<;>unfold meetsQ<;>first | (rw[h1,h2,h3];simp;done) | (rw[h1,h2];simp;done) | (rw[h1];simp;done)
 ·cases h
def keyQ (l:List Sq) (i k:Int):Int:=cmpR (l.getD i.toNat sq0).1.1 (l.getD k.toNat sq0).1.1
theorem key_vc (l:List Sq) (s:Nat) (i k:Int):vc Tryz.prog (lk gO) Tryz.f13.ntmps [] (Tryz.f13.body.getD .skip) ⟨entryS [.s false [.v (.int .i64 i)],.s false [.v (.int .i64 k)],.s false [.el 1 1 (fun _=>[.row 16 l.length (sgE l s)]) 0 0]] 0,[]⟩ (retVC Tryz.prog Tryz.f13.results.toList (.s false [.v (.int .i64 (keyQ l i k))]))=(((0:Int)≤i∧i<(↑(List.length l):Int))∧((0:Int)≤k∧k<(↑(List.length l):Int))∧SmC (qsC [(Prod.fst (Prod.fst (List.getD l (Int.toNat i) (((0:Rat),(0:Rat)),(0:Rat),(0:Rat)))),s)])∧SmC (qsC [(Prod.fst (Prod.fst (List.getD l (Int.toNat k) (((0:Rat),(0:Rat)),(0:Rat),(0:Rat)))),s)])∧(s≤50000∧s≤50000)∧AVle (AV.s false [Cell.v (Value.int IntKind.i64 (cmpR (Prod.fst (Prod.fst (List.getD l (Int.toNat i) (((0:Rat),(0:Rat)),(0:Rat),(0:Rat))))) (Prod.fst (Prod.fst (List.getD l (Int.toNat k) (((0:Rat),(0:Rat)),(0:Rat),(0:Rat)))))))]) (AV.s false [Cell.v (Value.int IntKind.i64 (keyQ l i k))])):=by kernel_rfl
theorem CLe.el {sz n k off:Nat} {e e':Nat→List Cell} (h:∀ i,i<n→CsLe (e i) (e' i)) (hcl:∀ i,i<n→(e' i).all Cell.cl=true):CLe (.el sz n e k off) (.el sz n e' k off):=by
 refine⟨fun G F w v hv=> ?_⟩
 have hv':COk F w (.el sz n e k off) v:=hv
 cases hv' with
 |el vals hF hk hl hc ho=>
  refine GOk.of (.el vals hF hk (fun i hi=>by rw[← (h i hi).len];exact hl i hi) hc fun i j c hi hj=> ?_)
  have hjl:j<(e i).length:=by rw[(h i hi).len];exact (List.getElem?_eq_some_iff.1 hj).1
  have h1:=List.getElem?_eq_getElem hjl
  have h2:=((h i hi).h j _ c h1 hj).h G F w _ (GOk.of (ho i j _ hi h1))
  exact COk.of h2 (List.all_eq_true.1 (hcl i hi) c (List.mem_of_getElem? hj))
theorem sgsL_len (n:Nat) (e:Nat→List Cell):(sgsL n e).length=n:=by simp[sgsL]
theorem cls_of {c c':Cell} (h:AVle (.s false [c]) (.s false [c'])):CsLe [c] [c']:=CsLe.cons ⟨fun G F w v hv=>one_inv (h.h G F w v (one_ok hv))⟩ CsLe.nil
def keyS (s:Nat):Spec
 |[.i i,.i k,.o (.s false [.el 1 1 e0 0 0])]=>match e0 0 with
  |[.row 16 n e]=>some (.s false [.v (.int .i64 (keyQ (sgsL n e) i k))],[(0≤i∧i<n)∧0≤k∧k<n,AVle (.s false [.row 16 n e]) (.s false [.row 16 (sgsL n e).length (sgE (sgsL n e) s)]),s≤50000])
  |_=>none
 |_=>none
theorem key_ok (D:Prop) (s:Nat) (B:Nat):RunOK Tryz.prog D B 13 (runC (keyS s)):=by
 refine fn_specR (c:=Tryz.f13.body.getD .skip) (ctx_ok (gO_ok D)) (by kernel_rfl) Tryz.func13 (by kernel_rfl) (by kernel_rfl) ?_ B
 intro pvs av ps h hp
 unfold keyS at h
 split at h
 ·rename_i i k e0
  split at h
  ·rename_i n e he
   cases h
   obtain⟨⟨h1,h2⟩,h3,h4,-⟩:=hp
   refine⟨[.s false [.v (.int .i64 i)],.s false [.v (.int .i64 k)],.s false [.el 1 1 (fun _=>[.row 16 (sgsL n e).length (sgE (sgsL n e) s)]) 0 0]],[],AvsLe.cons (AVle.refl _) (AvsLe.cons (AVle.refl _) (AvsLe.cons (AVle.one (CLe.el (fun j hj=> ?_) fun j _=>rfl)) AvsLe.nil)),by rw[Tryz.ntmps13];simp,?_⟩
   ·have:j=0:=by omega
    subst this
    rw[he]
    exact cls_of h3
   ·rw[key_vc,sgsL_len]
    simp only[SmC,cs_refl,true_and]
    exact⟨h1,h2,⟨h4,h4⟩,AVle.refl _⟩
  ·cases h
 ·cases h
end Go.Proofs.YtmagoiniahpofaaGreat
namespace Go.Proofs.YtmagoiniahpofaaGreat
open Go Go.RowKit Go.Lib Go.Sort Go.Shelf
set_option maxHeartbeats 4000000 in
set_option maxRecDepth 100000 in
theorem insPt_nil (o:Option Addr) (c:Nat) (w:World) (fv:Value) :
  Calls Tryz.prog 63 #[.slice o 0 c,.int .i64 0,.int .i64 0,fv] w fun e w'=>e= .returned (.tuple #[])∧Own w.heap.size w w':=by
 go_enter Tryz.func63,Tryz.ntmps63
 go_wp2_with fail
 go_loopg [8] 1 (fun g s8 wr=>s8= .int .i64 1∧Hid (Own w.heap.size w wr))
 case atStart=>exact⟨rfl,Own.refl _ _⟩
 case round=>
  obtain⟨rfl,HO⟩:=hrel
  have hlz:¬ (1:Int)<0:=by omega
  go_wp2_with fail
  go_end0
  exact⟨rfl,HO.out⟩
set_option maxHeartbeats 4000000 in
set_option maxRecDepth 100000 in
theorem pdqPt_nil (o:Option Addr) (c:Nat) (w:World) (fv:Value) (lim:Int) :
  Calls Tryz.prog 42 #[.slice o 0 c,.int .i64 0,.int .i64 0,.int .i64 lim,fv] w fun e w'=>e= .returned (.tuple #[])∧Own w.heap.size w w':=by
 go_enter Tryz.func42,Tryz.ntmps42
 go_wp2_with fail
 go_loopg [1,2] 1 (fun g s1 s2 wr=>s1= .int .i64 0∧s2= .int .i64 0∧Hid (Own w.heap.size w wr))
 case atStart=>exact⟨rfl,rfl,Own.refl _ _⟩
 case round=>
  obtain⟨rfl,rfl,HO⟩:=hrel
  go_wp2_with fail
  refine (insPt_nil o c _ fv).mono ?_
  rintro e w1 ⟨rfl,hg1⟩
  have HG:=Lib.hid (HO.out.call HO.out.size hg1)
  clear hg1 HO
  go_wp2_with fail
  (try simp only[Exit.inBlock,Exit.then]);refine bodyPost_ret (results_none rfl _ _ _) rfl ?_
  exact⟨rfl,HG.out⟩
set_option maxHeartbeats 4000000 in
set_option maxRecDepth 100000 in
theorem sortPt_nil:SortsNil Tryz.prog 16 :=by
 intro o c fv w
 go_enter Tryz.func16,Tryz.ntmps16
 go_wp2_with fail
 refine (Tryz.bits_Len 0 w (by omega) (by omega)).mono ?_
 rintro e w1 ⟨rfl,rfl⟩
 go_wp2_with fail
 refine (pdqPt_nil o c _ fv _).mono ?_
 rintro e w1 ⟨rfl,hg1⟩
 have HG:=Lib.hid hg1
 clear hg1
 go_wp2_with fail
 go_end0
 exact⟨rfl,HG.out⟩
set_option maxHeartbeats 4000000 in
set_option maxRecDepth 100000 in
theorem insSg_nil (o:Option Addr) (c:Nat) (w:World) (fv:Value) :
  Calls Tryz.prog 73 #[.slice o 0 c,.int .i64 0,.int .i64 0,fv] w fun e w'=>e= .returned (.tuple #[])∧Own w.heap.size w w':=by
 go_enter Tryz.func73,Tryz.ntmps73
 go_wp2_with fail
 go_loopg [8] 1 (fun g s8 wr=>s8= .int .i64 1∧Hid (Own w.heap.size w wr))
 case atStart=>exact⟨rfl,Own.refl _ _⟩
 case round=>
  obtain⟨rfl,HO⟩:=hrel
  have hlz:¬ (1:Int)<0:=by omega
  go_wp2_with fail
  go_end0
  exact⟨rfl,HO.out⟩
set_option maxHeartbeats 4000000 in
set_option maxRecDepth 100000 in
theorem pdqSg_nil (o:Option Addr) (c:Nat) (w:World) (fv:Value) (lim:Int) :
  Calls Tryz.prog 44 #[.slice o 0 c,.int .i64 0,.int .i64 0,.int .i64 lim,fv] w fun e w'=>e= .returned (.tuple #[])∧Own w.heap.size w w':=by
 go_enter Tryz.func44,Tryz.ntmps44
 go_wp2_with fail
 go_loopg [1,2] 1 (fun g s1 s2 wr=>s1= .int .i64 0∧s2= .int .i64 0∧Hid (Own w.heap.size w wr))
 case atStart=>exact⟨rfl,rfl,Own.refl _ _⟩
 case round=>
  obtain⟨rfl,rfl,HO⟩:=hrel
  go_wp2_with fail
  refine (insSg_nil o c _ fv).mono ?_
  rintro e w1 ⟨rfl,hg1⟩
  have HG:=Lib.hid (HO.out.call HO.out.size hg1)
  clear hg1 HO
  go_wp2_with fail
  (try simp only[Exit.inBlock,Exit.then]);refine bodyPost_ret (results_none rfl _ _ _) rfl ?_
  exact⟨rfl,HG.out⟩
set_option maxHeartbeats 4000000 in
set_option maxRecDepth 100000 in
theorem sortSg_nil:SortsNil Tryz.prog 17 :=by
 intro o c fv w
 go_enter Tryz.func17,Tryz.ntmps17
 go_wp2_with fail
 refine (Tryz.bits_Len 0 w (by omega) (by omega)).mono ?_
 rintro e w1 ⟨rfl,rfl⟩
 go_wp2_with fail
 refine (pdqSg_nil o c _ fv _).mono ?_
 rintro e w1 ⟨rfl,hg1⟩
 have HG:=Lib.hid hg1
 clear hg1
 go_wp2_with fail
 go_end0
 exact⟨rfl,HG.out⟩
set_option maxHeartbeats 4000000 in
set_option maxRecDepth 100000 in
theorem insIx_nil (o:Option Addr) (c:Nat) (w:World) (fv:Value) :
  Calls Tryz.prog 59 #[.slice o 0 c,.int .i64 0,.int .i64 0,fv] w fun e w'=>e= .returned (.tuple #[])∧Own w.heap.size w w':=by
 go_enter Tryz.func59,Tryz.ntmps59
 go_wp2_with fail
 go_loopg [8] 1 (fun g s8 wr=>s8= .int .i64 1∧Hid (Own w.heap.size w wr))
 case atStart=>exact⟨rfl,Own.refl _ _⟩
 case round=>
  obtain⟨rfl,HO⟩:=hrel
  have hlz:¬ (1:Int)<0:=by omega
  go_wp2_with fail
  go_end0
  exact⟨rfl,HO.out⟩
set_option maxHeartbeats 4000000 in
set_option maxRecDepth 100000 in
theorem stableIx_nil (o:Option Addr) (c:Nat) (w:World) (fv:Value) :
  Calls Tryz.prog 38 #[.slice o 0 c,.int .i64 0,fv] w fun e w'=>e= .returned (.tuple #[])∧Own w.heap.size w w':=by
 go_enter Tryz.func38,Tryz.ntmps38
 go_wp2_with fail
 go_loopg [7,8] 1 (fun g s7 s8 wr=>s7= .int .i64 0∧s8= .int .i64 20∧Hid (Own w.heap.size w wr))
 case atStart=>exact⟨rfl,rfl,Own.refl _ _⟩
 case round=>
  obtain⟨rfl,rfl,HO⟩:=hrel
  have hlz:¬ (20:Int)≤0:=by omega
  go_wp2_with fail
  refine (insIx_nil o c _ fv).mono ?_
  rintro e w1 ⟨rfl,hg1⟩
  have HG:=Lib.hid (HO.out.call HO.out.size hg1)
  clear hg1 HO
  go_wp2_with fail
  go_loopg [6,7,8,9] 1 (fun g s6 s7 s8 s9 wr=>s6= .int .i64 20∧Hid (Own w.heap.size w wr))
  case atStart=>exact⟨rfl,HG⟩
  case round=>
   clear HG
   obtain⟨rfl,HO⟩:=hrel
   have hlz:¬ (20:Int)<0:=by omega
   go_wp2_with fail
   go_end0
   exact⟨rfl,HO.out⟩
set_option maxHeartbeats 4000000 in
set_option maxRecDepth 100000 in
theorem sortIx_nil:SortsNil Tryz.prog 12 :=by
 intro o c fv w
 go_enter Tryz.func12,Tryz.ntmps12
 go_wp2_with fail
 refine (stableIx_nil o c _ fv).mono ?_
 rintro e w1 ⟨rfl,hg1⟩
 have HG:=Lib.hid hg1
 clear hg1
 go_wp2_with fail
 go_end0
 exact⟨rfl,HG.out⟩
theorem sortPt_v:SortsV Tryz.prog 16 39 8 true:=sortsK Tryz.sortPt rfl 8 Tryz.isAgg39 Tryz.sizeOf39
theorem sortSg_v:SortsV Tryz.prog 17 41 16 true:=sortsK Tryz.sortSg rfl 16 Tryz.isAgg41 Tryz.sizeOf41
theorem flat_one {α:Type} {enc:α→List Value} (hk:∀ x,(enc x).length=1) (l:List α):l.flatMap enc=l.map fun x=>(enc x).getD 0 undef:=by
 induction l with
 |nil=>rfl
 |cons x r ih=>
  rw[List.flatMap_cons,List.map_cons,ih]
  have:=hk x
  match h:enc x,this with
  |[v],_=>rfl
theorem sortIx_v:SortsV Tryz.prog 12 3 1 false:=by
 intro α _ enc hk h1 cf hO g cb B v l w eg hTu hr hl0 hn hcmp
 obtain⟨hx,⟨_,h0⟩ | ⟨blk,cap,cur,rfl,hB,hg,hc,hm,hs,ht⟩⟩:=hr
 ·omega
 have hgt:blk<w.heap.size:=(Array.getElem?_eq_some_iff.1 hg).1
 have ho:OneCell (fun x:α=>(enc x).getD 0 undef):=fun x=>by
  have:=hk x
  match h:enc x,this with
  |[v],_=>
   have hv:(enc x).getD 0 undef=v:=by rw[h];rfl
   have:=h1 x v (by rw[h];simp)
   rw[← hv] at this
   exact this
 rw[flat_one hk] at ht
 have hB0:BlkC 3 w blk cur.toList:=hg
 have hH:Holds (fun x:α=>(enc x).getD 0 undef) w blk 0 l.toArray:=fun j hj=>by
  have hj':j<l.length:=by simpa using hj
  refine⟨?_,?_⟩
  ·rw[Nat.zero_add,hB0.cell j]
   have h3:=congrArg (fun q=>q[j]?) ht
   simp only[List.getElem?_take,List.getElem?_map,Nat.mul_one,if_pos hj',List.getElem?_eq_getElem hj',Option.map_some] at h3
   rw[h3,getElem!_pos l.toArray j hj]
   simp
  ·rw[Nat.zero_add];exact hB0.free j
 have grown:∀ {m:Nat} {dk:Array α} {os:Array Obj},w.grownBy (sortWorld (fun x:α=>(enc x).getD 0 undef) w blk 0 m dk os) (some blk):=fun {m dk os} =>by
  refine⟨rfl,rfl,rfl,?_,fun g hg hn=> ?_⟩
  ·show w.heap.size≤((w.heap.modify blk _)++os).size
   rw[Array.size_append,Array.size_modify]
   omega
  ·show ((w.heap.modify blk _)++os)[g]? =_
   rw[Array.getElem?_append_left (by simpa using hg),Array.getElem?_modify,if_neg (fun e=>hn (by rw[e]))]
 have hC:CmpLays1 Tryz.prog g cb (fun x:α=>(enc x).getD 0 undef) cf blk 0 l.toArray.size w:=fun m os dk hdk x y=>by
  refine (hcmp _ grown (keep_other grown hg hTu) (Nat.le_add_right _ _) x y).mono ?_
  rintro e w' ⟨rfl,ho⟩
  exact⟨rfl,own_grw ho⟩
 have h:=sortStable_any (fun x:α=>(enc x).getD 0 undef) cf hO g cb blk 0 cap l.length l.toArray w eg (by simpa using hC) ⟨ho,hH,hgt⟩ (by simp) (by omega) hn l.toArray w (by simp) (SW.start hH)
 refine h.mono ?_
 rintro e w' ⟨rfl,d',p2,hp,hsd,hw⟩
 have hp':PermIn 0 l.toArray.size l.toArray d':=by simpa using hp
 obtain⟨p1,_⟩:=permIn_list hp'
 have hHd:=hw.holds hgt hH (by rw[p2];simp)
 obtain⟨m,os,rfl⟩:=hw
 have hlen2:d'.toList.length=l.length:=by rw[Array.length_toList];exact p2
 have q:∃ cs:Array Value,(sortWorld (fun x:α=>(enc x).getD 0 undef) w blk 0 m d' os).heap[blk]? =some (.cells cs 3 (0,0))∧cs.size=cur.size:=by
  refine⟨putCells (fun x:α=>(enc x).getD 0 undef) 0 d' cur,?_,putCells_size _ _ _ _⟩
  show ((w.heap.modify blk _)++os)[blk]? =_
  rw[Array.getElem?_append_left (by simpa using hgt),Array.getElem?_modify,if_pos rfl,hg]
  rfl
 obtain⟨cs',q1,q2⟩:=q
 refine⟨rfl,grown,keep_other grown hg hTu,Nat.le_add_right _ _,d'.toList,p1,sorted_list hsd p2,?_,.inr ⟨blk,cap,cs',by rw[hlen2],hB,q1,by rw[hlen2];exact hc,hm,by rw[q2];exact hs,?_⟩⟩
 ·rw[flt_len hk]
 ·rw[flat_one hk]
  have hB1:BlkC 3 (sortWorld (fun x:α=>(enc x).getD 0 undef) w blk 0 m d' os) blk cs'.toList:=q1
  apply List.ext_getElem?
  intro j
  rw[List.getElem?_take,List.getElem?_map,Nat.mul_one]
  by_cases hj:j<d'.toList.length
  ·have hj2:j<d'.size:=by simpa using hj
   rw[if_pos hj]
   have h3:=(hHd j hj2).1
   rw[Nat.zero_add,hB1.cell j] at h3
   rw[h3,getElem!_pos d' j hj2,List.getElem?_eq_getElem hj]
   simp
  ·rw[if_neg hj,List.getElem?_eq_none (by omega)]
   rfl
end Go.Proofs.YtmagoiniahpofaaGreat
namespace Go.Proofs.YtmagoiniahpofaaGreat
open Go Go.RowKit
def ptC (p:Pq) (s:Nat):List Cell:=qsC [(p.1,s),(p.2,s)]
def dedF (p:Sq):List Sq→List Sq
 |[]=>[]
 |x::r=>if cmpSq x p=0 then dedF x r else x::dedF x r
def dedA:List Sq→List Sq
 |[]=>[]
 |a::r=>a::dedF a r
def mixA (l:List Sq) (m:Nat):List Sq:=dedA (l.take m)++l.drop (dedA (l.take m)).length
def ckA (l:List Sq) (m:Nat):Nat:=(dedA (l.take m)).length
def gCp:List (Nat × Run):=[(20,runC eqSgS)]
theorem gCp_ok (D:Prop):∀ p∈gCp,∀ B,RunOK Tryz.prog D B p.1 p.2:=ctx_cons (eqSg_ok D) fun p hp=>by cases hp
def cp1_inv (l:List Sq) (s:Nat):LInv:=⟨Nat,fun k=>1≤k∧k≤l.length∧dedA (l.take k)=l.take k,fun k=>⟨[(0,.s false [.hd 1000000]),(1,.s false [.clo 20 []]),(5,.s false [.v (.int .i64 k)])],[(1000000,.row 41 16 l.length (sgE l s))]⟩,fun k=>l.length-k,[],[],none⟩
def cp2_inv (l:List Sq) (s:Nat):LInv:=⟨Nat × Nat,fun p=>1≤p.1∧1≤p.2∧p.1+p.2≤l.length∧ckA l (p.1+p.2)≤p.1+p.2-1∧p.1≤ckA l (p.1+p.2),fun p=>⟨[(0,.s false [.hd 1000000]),(1,.s false [.clo 20 []]),(5,.s false [.v (.int .i64 (ckA l (p.1+p.2)))]),(6,.s false [.pt 1000000 16 p.1 (l.length-p.1)]),(7,.s false [.v (.int .i64 p.2)])],[(1000000,.row 41 16 l.length (sgE (mixA l (p.1+p.2)) s))]⟩,fun p=>l.length-p.2,[],[],none⟩
def pre (a0 a1:List Adj):LInv:=⟨Unit,fun _=>True,fun _=>⟨[],[]⟩,fun _=>0,a0,a1,none⟩
theorem comp_vc (l:List Sq) (s:Nat):vc Tryz.prog (lk gCp) Tryz.f19.ntmps [(4,cp1_inv l s),(9,cp2_inv l s),(1000002,pre [] [.ren 1000000 90]),(1000015,pre [] [.cut 4 90]),(1000016,pre [] [.ren 1000000 90])] (Tryz.f19.body.getD .skip) (⟨entryS [.s false [.hd 1000000],.s false [.clo 20 []]] 0,[(1000000,.row 41 16 l.length (sgE l s))]⟩) (retO Tryz.prog Tryz.f19.results.toList [90] (.s false [.hd 90]) [(90,.row 41 16 (dedA l).length (sgE (dedA l) s))])=(let k2:=Value.slice none 0 0;let k3:=ABlk.row 41 16 (List.length (dedA l)) (sgE (dedA l) s);let k4:=AV.s false [Cell.hd 1000000];let k5:=AV.s false [Cell.clo 20 []];let k6:=(1:Int);let k7:=(0:Int);let k8:=List.length l;let k9:=AV.s false [Cell.v (Value.int IntKind.i64 k6)];let k10:=AV.s false [Cell.hd 90];let k11:=fun (zz:Nat × Nat)=>(Prod.fst zz+Prod.snd zz);let k12:=mx4 s s s s;let k0:=(↑k8:Int);let k1:=ABlk.row 41 16 k8 (sgE l s);(decide (k0<(2:Int))=true→SmA k10∧ABle k1 k3∧True)∧(decide (k0<(2:Int))=false→(Exists fun (i:Nat)=>(1≤i∧i≤List.length l∧dedA (List.take i l)=List.take i l)∧(SmA k4∧SmA k5∧AVle k9 (AV.s false [Cell.v (Value.int IntKind.i64 (↑i:Int))])∧True)∧SmB k1∧True)∧∀ (i:Nat),1≤i∧i≤List.length l∧dedA (List.take i l)=List.take i l→(decide ((↑i:Int)<k0)=true→(k7≤(↑i:Int)∧(↑i:Int)<k0)∧Int.toNat (↑i:Int)<List.length l∧(k7≤IntKind.wrap IntKind.i64 ((↑i:Int)-k6)∧IntKind.wrap IntKind.i64 ((↑i:Int)-k6)<k0)∧Int.toNat (IntKind.wrap IntKind.i64 ((↑i:Int)-k6))<List.length l∧SmC (sqC (List.getD l (Int.toNat (↑i:Int)) sq0) s)∧SmC (sqC (List.getD l (Int.toNat (IntKind.wrap IntKind.i64 ((↑i:Int)-k6))) sq0) s)∧max k12 k12≤50000∧((cmpSq (List.getD l (Int.toNat (↑i:Int)) sq0) (List.getD l (Int.toNat (IntKind.wrap IntKind.i64 ((↑i:Int)-k6))) sq0) == k7)=true→(k7≤(↑i:Int)∧(↑i:Int)≤k0∧k0≤k0)∧(Exists fun (i_1:Nat × Nat)=>(1≤Prod.fst i_1∧1≤Prod.snd i_1∧Prod.fst i_1+Prod.snd i_1≤List.length l∧ckA l (k11 i_1)≤Prod.fst i_1+Prod.snd i_1-1∧Prod.fst i_1≤ckA l (k11 i_1))∧(SmA k4∧SmA k5∧AVle (AV.s false [Cell.v (Value.int IntKind.i64 (↑i:Int))]) (AV.s false [Cell.v (Value.int IntKind.i64 (↑(ckA l (k11 i_1)):Int))])∧AVle (AV.s false [Cell.pt 1000000 16 (Int.toNat (↑i:Int)) (Int.toNat k0-Int.toNat (↑i:Int))]) (AV.s false [Cell.pt 1000000 16 (Prod.fst i_1) (List.length l-Prod.fst i_1)])∧AVle k9 (AV.s false [Cell.v (Value.int IntKind.i64 (↑(Prod.snd i_1):Int))])∧True)∧ABle k1 (ABlk.row 41 16 k8 (sgE (mixA l (k11 i_1)) s))∧True)∧∀ (i:Nat × Nat),1≤Prod.fst i∧1≤Prod.snd i∧Prod.fst i+Prod.snd i≤List.length l∧ckA l (Prod.fst i+Prod.snd i)≤Prod.fst i+Prod.snd i-1∧Prod.fst i≤ckA l (Prod.fst i+Prod.snd i)→(decide ((↑(Prod.snd i):Int)<(↑(List.length l-Prod.fst i):Int))=true→(k7≤(↑(Prod.snd i):Int)∧(↑(Prod.snd i):Int)<(↑(List.length l-Prod.fst i):Int))∧Prod.fst i+Int.toNat (↑(Prod.snd i):Int)<List.length l∧(k7≤IntKind.wrap IntKind.i64 ((↑(Prod.snd i):Int)-k6)∧IntKind.wrap IntKind.i64 ((↑(Prod.snd i):Int)-k6)<(↑(List.length l-Prod.fst i):Int))∧Prod.fst i+Int.toNat (IntKind.wrap IntKind.i64 ((↑(Prod.snd i):Int)-k6))<List.length l∧SmC (sqC (List.getD (mixA l (Prod.fst i+Prod.snd i)) (Prod.fst i+Int.toNat (↑(Prod.snd i):Int)) sq0) s)∧SmC (sqC (List.getD (mixA l (Prod.fst i+Prod.snd i)) (Prod.fst i+Int.toNat (IntKind.wrap IntKind.i64 ((↑(Prod.snd i):Int)-k6))) sq0) s)∧max k12 k12≤50000∧((!cmpSq (List.getD (mixA l (Prod.fst i+Prod.snd i)) (Prod.fst i+Int.toNat (↑(Prod.snd i):Int)) sq0) (List.getD (mixA l (Prod.fst i+Prod.snd i)) (Prod.fst i+Int.toNat (IntKind.wrap IntKind.i64 ((↑(Prod.snd i):Int)-k6))) sq0) == k7)=true→(k7≤(↑(Prod.snd i):Int)∧(↑(Prod.snd i):Int)<(↑(List.length l-Prod.fst i):Int))∧Prod.fst i+Int.toNat (↑(Prod.snd i):Int)<List.length l∧(k7≤(↑(ckA l (Prod.fst i+Prod.snd i)):Int)∧(↑(ckA l (Prod.fst i+Prod.snd i)):Int)<k0)∧Int.toNat (↑(ckA l (Prod.fst i+Prod.snd i)):Int)<List.length l∧Exists fun (i':Nat × Nat)=>(1≤Prod.fst i'∧1≤Prod.snd i'∧Prod.fst i'+Prod.snd i'≤List.length l∧ckA l (Prod.fst i'+Prod.snd i')≤Prod.fst i'+Prod.snd i'-1∧Prod.fst i'≤ckA l (Prod.fst i'+Prod.snd i'))∧List.length l-Prod.snd i'<List.length l-Prod.snd i∧(SmA k4∧SmA k5∧AVle (AV.s false [Cell.v (Value.int IntKind.i64 (IntKind.wrap IntKind.i64 ((↑(ckA l (Prod.fst i+Prod.snd i)):Int)+k6)))]) (AV.s false [Cell.v (Value.int IntKind.i64 (↑(ckA l (Prod.fst i'+Prod.snd i')):Int))])∧AVle (AV.s false [Cell.pt 1000000 16 (Prod.fst i) (List.length l-Prod.fst i)]) (AV.s false [Cell.pt 1000000 16 (Prod.fst i') (List.length l-Prod.fst i')])∧AVle (AV.s false [Cell.v (Value.int IntKind.i64 (IntKind.wrap IntKind.i64 ((↑(Prod.snd i):Int)+k6)))]) (AV.s false [Cell.v (Value.int IntKind.i64 (↑(Prod.snd i'):Int))])∧True)∧ABle (ABlk.row 41 16 k8 fun (j:Nat)=>if j=Int.toNat (↑(ckA l (Prod.fst i+Prod.snd i)):Int) then (sqC (List.getD (mixA l (Prod.fst i+Prod.snd i)) (Prod.fst i+Int.toNat (↑(Prod.snd i):Int)) sq0) s) else (sqC (List.getD (mixA l (Prod.fst i+Prod.snd i)) j sq0) s)) (ABlk.row 41 16 k8 (sgE (mixA l (Prod.fst i'+Prod.snd i')) s))∧True)∧((!cmpSq (List.getD (mixA l (Prod.fst i+Prod.snd i)) (Prod.fst i+Int.toNat (↑(Prod.snd i):Int)) sq0) (List.getD (mixA l (Prod.fst i+Prod.snd i)) (Prod.fst i+Int.toNat (IntKind.wrap IntKind.i64 ((↑(Prod.snd i):Int)-k6))) sq0) == k7)=false→Exists fun (i':Nat × Nat)=>(1≤Prod.fst i'∧1≤Prod.snd i'∧Prod.fst i'+Prod.snd i'≤List.length l∧ckA l (Prod.fst i'+Prod.snd i')≤Prod.fst i'+Prod.snd i'-1∧Prod.fst i'≤ckA l (Prod.fst i'+Prod.snd i'))∧List.length l-Prod.snd i'<List.length l-Prod.snd i∧(SmA k4∧SmA k5∧AVle (AV.s false [Cell.v (Value.int IntKind.i64 (↑(ckA l (Prod.fst i+Prod.snd i)):Int))]) (AV.s false [Cell.v (Value.int IntKind.i64 (↑(ckA l (Prod.fst i'+Prod.snd i')):Int))])∧AVle (AV.s false [Cell.pt 1000000 16 (Prod.fst i) (List.length l-Prod.fst i)]) (AV.s false [Cell.pt 1000000 16 (Prod.fst i') (List.length l-Prod.fst i')])∧AVle (AV.s false [Cell.v (Value.int IntKind.i64 (IntKind.wrap IntKind.i64 ((↑(Prod.snd i):Int)+k6)))]) (AV.s false [Cell.v (Value.int IntKind.i64 (↑(Prod.snd i'):Int))])∧True)∧ABle (ABlk.row 41 16 k8 (sgE (mixA l (Prod.fst i+Prod.snd i)) s)) (ABlk.row 41 16 k8 (sgE (mixA l (Prod.fst i'+Prod.snd i')) s))∧True))∧(decide ((↑(Prod.snd i):Int)<(↑(List.length l-Prod.fst i):Int))=false→(k7≤(↑(ckA l (Prod.fst i+Prod.snd i)):Int)∧(↑(ckA l (Prod.fst i+Prod.snd i)):Int)≤k0∧k0≤k0)∧Int.toNat (↑(ckA l (Prod.fst i+Prod.snd i)):Int)+(Int.toNat k0-Int.toNat (↑(ckA l (Prod.fst i+Prod.snd i)):Int))≤List.length l∧(k7≤k7∧k7≤(↑(ckA l (Prod.fst i+Prod.snd i)):Int)∧(↑(ckA l (Prod.fst i+Prod.snd i)):Int)≤k0)∧0<Int.toNat (↑(ckA l (Prod.fst i+Prod.snd i)):Int)-0∧SmA k10∧ABle (ABlk.row 41 16 (Int.toNat (↑(ckA l (Prod.fst i+Prod.snd i)):Int)-Int.toNat k7) fun (j:Nat)=>if Int.toNat (↑(ckA l (Prod.fst i+Prod.snd i)):Int)≤j∧j<Int.toNat (↑(ckA l (Prod.fst i+Prod.snd i)):Int)+(Int.toNat k0-Int.toNat (↑(ckA l (Prod.fst i+Prod.snd i)):Int)) then [Cell.v k2,Cell.f,Cell.v k2,Cell.f,Cell.v k2,Cell.f,Cell.v k2,Cell.f,Cell.v k2,Cell.f,Cell.v k2,Cell.f,Cell.v k2,Cell.f,Cell.v k2,Cell.f] else (sqC (List.getD (mixA l (Prod.fst i+Prod.snd i)) j sq0) s)) k3∧True))∧((cmpSq (List.getD l (Int.toNat (↑i:Int)) sq0) (List.getD l (Int.toNat (IntKind.wrap IntKind.i64 ((↑i:Int)-k6))) sq0) == k7)=false→Exists fun (i':Nat)=>(1≤i'∧i'≤List.length l∧dedA (List.take i' l)=List.take i' l)∧List.length l-i'<List.length l-i∧(SmA k4∧SmA k5∧AVle (AV.s false [Cell.v (Value.int IntKind.i64 (IntKind.wrap IntKind.i64 ((↑i:Int)+k6)))]) (AV.s false [Cell.v (Value.int IntKind.i64 (↑i':Int))])∧True)∧SmB k1∧True))∧(decide ((↑i:Int)<k0)=false→SmA k10∧ABle k1 k3∧True))):=by kernel_rfl
theorem AVle.wrapL {i n:Nat} (h:i<n) (hn:n≤1000000000000000):AVle (.s false [.v (.int .i64 (IntKind.i64.wrap ((i:Int)+1)))]) (.s false [.v (.int .i64 ((i+1:Nat):Int))]):=
 AVle.int (by rw[IntKind.wrap_i64];omega)
theorem dedF_snoc (x:Sq):∀ (r:List Sq) (p:Sq),dedF p (r++[x])=dedF p r++if cmpSq x ((p::r).getLast (by simp))=0 then [] else [x]
 |[],p=>by
  show (if cmpSq x p=0 then dedF x [] else x::dedF x [])=_
  rfl
 |y::r,p=>by
  have h1:=dedF_snoc x r y
  have h2:(p::y::r).getLast (by simp)=(y::r).getLast (by simp):=List.getLast_cons (by simp)
  simp only[List.cons_append,dedF,h1,h2]
  split<;>simp
theorem ded_succ {l:List Sq} {m:Nat} (h0:1≤m) (hm:m<l.length):dedA (l.take (m+1))=if cmpSq (l.getD m sq0) (l.getD (m-1) sq0)=0 then dedA (l.take m) else dedA (l.take m)++[l.getD m sq0]:=by
 have e1:l.take (m+1)=l.take m++[l.getD m sq0]:=by
  rw[List.take_succ_eq_append_getElem hm]
  simp[List.getD,hm]
 rw[e1]
 match hl:l.take m with
 |[]=>
  have h3:(l.take m).length=0:=by rw[hl];rfl
  rw[List.length_take] at h3
  omega
 |a::r=>
  have h2:(a::r).getLast (by simp)=l.getD (m-1) sq0:=by
   have h3:(a::r)[(a::r).length-1]? =l[m-1]? :=by
    have hlen:(a::r).length=m:=by rw[← hl,List.length_take];omega
    rw[hlen,← hl,List.getElem?_take,if_pos (show m-1<m by omega)]
   rw[List.getLast_eq_getElem]
   have hm1:m-1<l.length:=by omega
   rw[List.getElem?_eq_getElem hm1,List.getElem?_eq_getElem (by simp)] at h3
   simp only[List.getD,List.getElem?_eq_getElem hm1,Option.getD_some]
   exact Option.some.inj h3
  simp only[List.cons_append,dedA]
  rw[dedF_snoc,h2]
  split<;>simp
theorem mix_get {l:List Sq} {m j:Nat} (h:ckA l m≤j):(mixA l m).getD j sq0=l.getD j sq0:=by
 unfold ckA at h
 unfold mixA
 simp only[List.getD]
 rw[List.getElem?_append_right h,List.getElem?_drop]
 congr 2
 omega
theorem mix_succ {l:List Sq} {m j:Nat} (h0:1≤m) (hm:m<l.length) (hne:cmpSq (l.getD m sq0) (l.getD (m-1) sq0)≠0) (_hk:ckA l m<l.length):(mixA l (m+1)).getD j sq0=if j=ckA l m then l.getD m sq0 else (mixA l m).getD j sq0:=by
 unfold mixA
 rw[ded_succ h0 hm,if_neg hne]
 unfold ckA
 generalize dedA (l.take m)=D at *
 simp only[List.getD,List.length_append,List.length_cons,List.length_nil,Nat.zero_add,List.append_assoc]
 split
 ·rename_i e
  subst e
  rw[List.getElem?_append_right (Nat.le_refl _),Nat.sub_self]
  rfl
 ·rename_i e
  rcases Nat.lt_or_ge j D.length with h | h
  ·rw[List.getElem?_append_left h,List.getElem?_append_left h]
  ·rw[List.getElem?_append_right h,List.getElem?_append_right h,List.getElem?_append_right (by simp;omega),List.getElem?_drop,List.getElem?_drop]
   congr 2
   simp
   omega
theorem sqC_cl (t:Sq) (s:Nat):(sqC t s).all Cell.cl=true:=rfl
def compR (s:Nat):Run:=fun b avs t=>match avs with
 |[.s false [.hd k],.s false [.clo g []]]=>match b k with
  |some (.row T 16 n e)=>match Nat.beq g 20 && Nat.beq T 41 with
   |true=>some { val:=some (.s false [.hd t]),set:=[(t,.row 41 16 (dedA (sgsL n e)).length (sgE (dedA (sgsL n e)) s))],nws:=[t],del:=[k],ps:=[∀ i,i<n→CsLe (e i) (sgE (sgsL n e) s i),s≤50000∧n≤1000000000000] }
   |false=>none
  |_=>none
 |_=>none
set_option maxHeartbeats 1000000 in
theorem comp_true (l:List Sq) (s:Nat) (hn:l.length≤1000000000000) (hs:s≤50000):vc Tryz.prog (lk gCp) Tryz.f19.ntmps [(4,cp1_inv l s),(9,cp2_inv l s),(1000002,pre [] [.ren 1000000 90]),(1000015,pre [] [.cut 4 90]),(1000016,pre [] [.ren 1000000 90])] (Tryz.f19.body.getD .skip) (⟨entryS [.s false [.hd 1000000],.s false [.clo 20 []]] 0,[(1000000,.row 41 16 l.length (sgE l s))]⟩) (retO Tryz.prog Tryz.f19.results.toList [90] (.s false [.hd 90]) [(90,.row 41 16 (dedA l).length (sgE (dedA l) s))]):=by
 rw[comp_vc]
 have hb:max (mx4 s s s s) (mx4 s s s s)≤50000:=by unfold mx4;omega
 simp only[SmA,SmC,SmB,cs_refl,av_refl,ab_refl,true_and,and_true,Int.toNat_natCast,decide_eq_true_eq,decide_eq_false_iff_not,hb]
 have wrap1:∀ i:Nat,1≤i→i≤l.length→IntKind.i64.wrap ((i:Int)-1)=((i-1:Nat):Int):=fun i h1 h2=>by rw[IntKind.wrap_i64];omega
 have ded1:dedA (l.take 1)=l.take 1:=by
  match l with
  |[]=>rfl
  |a::r=>rfl
 refine⟨fun h=> ?_,fun h2=>⟨⟨1,⟨Nat.le_refl _,by omega,ded1⟩,AVle.refl _⟩,fun i hi=>⟨fun hlt=> ?_,fun hge=> ?_⟩⟩⟩
 ·have:dedA l=l:=by
   match l,h with
   |[],_=>rfl
   |[a],_=>rfl
   |_::_::_,h=>simp at h;omega
  rw[this]
  exact ABle.refl _
 ·obtain⟨h1,h3,h4⟩:=hi
  have hlt':i<l.length:=by omega
  rw[wrap1 i h1 h3]
  simp only[Int.toNat_natCast]
  refine⟨by omega,hlt',by omega,by omega,fun he=>⟨by omega,⟨(i,1),?_,?_⟩,fun p hp=>⟨fun hlt2=> ?_,fun hge2=> ?_⟩⟩,fun he=>⟨i+1,⟨by omega,hlt',?_⟩,by omega,AVle.wrapL hlt' (by omega)⟩⟩
  ·have he':=eq_of_beq he
   have hck:ckA l (i+1)=i:=by unfold ckA;rw[ded_succ h1 hlt',if_pos he',h4,List.length_take];omega
   simp only[hck]
   omega
  ·have he':=eq_of_beq he
   have hck:ckA l (i+1)=i:=by unfold ckA;rw[ded_succ h1 hlt',if_pos he',h4,List.length_take];omega
   have hmx:mixA l (i+1)=l:=by
    unfold mixA
    rw[ded_succ h1 hlt',if_pos he',h4,List.length_take,Nat.min_eq_left h3,List.take_append_drop]
   simp only[hck,hmx]
   exact⟨⟨AVle.refl _,AVle.refl _,AVle.refl _⟩,ABle.refl _⟩
  ·obtain⟨a,c⟩:=p
   simp only at hp hlt2 ⊢
   obtain⟨p1,p2,p3,p4,p5⟩:=hp
   have hc:c<l.length-a:=by omega
   have hm:a+c<l.length:=by omega
   rw[wrap1 c p2 (by omega)]
   simp only[Int.toNat_natCast]
   have e1:a+(c-1)=a+c-1:=by omega
   rw[e1,mix_get (by omega:ckA l (a+c)≤a+c),mix_get (by omega:ckA l (a+c)≤a+c-1)]
   refine⟨by omega,hm,by omega,by omega,fun he2=>⟨by omega,hm,by omega,by omega,(a,c+1),?_⟩,fun he2=>⟨(a,c+1),?_⟩⟩
   ·have hne:cmpSq (l.getD (a+c) sq0) (l.getD (a+c-1) sq0)≠0:=by simpa using he2
    have hck:ckA l (a+(c+1))=ckA l (a+c)+1:=by
     show ckA l (a+c+1)=_
     unfold ckA;rw[ded_succ (by omega) hm,if_neg hne];simp
    simp only[hck]
    refine⟨by omega,by omega,⟨AVle.wrapL (n:=1000000000000) (by omega) (by omega),AVle.refl _,AVle.wrapL (n:=1000000000000) (by omega) (by omega)⟩,ABle.row rfl (fun j hj=> ?_) (fun j _=>sqC_cl _ _)⟩
    have h9:=mix_succ (j:=j) (by omega) hm hne (by omega)
    show CsLe (if j=ckA l (a+c) then _ else _) (sgE (mixA l (a+c+1)) s j)
    unfold sgE
    rw[h9]
    split
    ·exact CsLe.refl _
    ·exact CsLe.refl _
   ·have hne:cmpSq (l.getD (a+c) sq0) (l.getD (a+c-1) sq0)=0:=by simpa using he2
    have hd:dedA (l.take (a+(c+1)))=dedA (l.take (a+c)):=by
     show dedA (l.take (a+c+1))=_
     rw[ded_succ (by omega) hm,if_pos hne]
    have hck:ckA l (a+(c+1))=ckA l (a+c):=by unfold ckA;rw[hd]
    have hmx:mixA l (a+(c+1))=mixA l (a+c):=by unfold mixA;rw[hd]
    simp only[hck,hmx]
    exact⟨by omega,by omega,⟨AVle.refl _,AVle.refl _,AVle.wrapL (n:=1000000000000) (by omega) (by omega)⟩,ABle.refl _⟩
  ·obtain⟨a,c⟩:=p
   simp only at hp hge2 ⊢
   obtain⟨p1,p2,p3,p4,p5⟩:=hp
   have hm:a+c=l.length:=by omega
   rw[hm] at p4 p5 ⊢
   have ht:l.take l.length=l:=List.take_length
   have hk:ckA l l.length=(dedA l).length:=by unfold ckA;rw[ht]
   refine⟨by omega,by omega,by omega,by omega,ABle.row (by simp[hk]) (fun j hj=> ?_) (fun j _=>sqC_cl _ _)⟩
   have hj':j<ckA l l.length:=by simpa using hj
   rw[if_neg (by omega)]
   have:(mixA l l.length).getD j sq0=(dedA l).getD j sq0:=by
    unfold mixA
    rw[ht]
    simp only[List.getD]
    rw[List.getElem?_append_left (by omega)]
   rw[this]
   exact CsLe.refl _
  ·have hne:cmpSq (l.getD i sq0) (l.getD (i-1) sq0)≠0:=by simpa using he
   rw[ded_succ h1 hlt',if_neg hne,h4,List.take_succ_eq_append_getElem hlt']
   simp[List.getD,hlt']
 ·obtain⟨h1,h3,h4⟩:=hi
  have:i=l.length:=by omega
  subst this
  rw[List.take_length] at h4
  rw[h4]
  exact ABle.refl _
end Go.Proofs.YtmagoiniahpofaaGreat
namespace Go.Proofs.YtmagoiniahpofaaGreat
open Go Go.RowKit Go.Lib Go.Sort Go.Shelf
theorem cmpR_l0 (q p:Rat):cmpR q p<0↔q<p:=by unfold cmpR;grind
theorem cmpR_e0 (q p:Rat):cmpR q p=0↔q=p:=by unfold cmpR;grind
theorem cmpR_g0 (q p:Rat):0<cmpR q p↔p<q:=by unfold cmpR;grind
def ltPq (p q:Pq):Prop:=p.1<q.1∨(p.1=q.1∧p.2<q.2)
def ltSq (t u:Sq):Prop:=ltPq t.1 u.1∨(t.1=u.1∧ltPq t.2 u.2)
theorem cmpPq_lt (p q:Pq):cmpPq p q<0↔ltPq p q:=by
 unfold cmpPq cmpP2 ltPq
 split
 ·rename_i h
  rw[cmpR_l0]
  have:p.1≠q.1:=fun e=>h ((cmpR_e0 _ _).2 e)
  grind
 ·rename_i h
  have:p.1=q.1:=(cmpR_e0 _ _).1 (by omega)
  rw[cmpR_l0]
  grind
theorem cmpPq_eq (p q:Pq):cmpPq p q=0↔p=q:=by
 unfold cmpPq cmpP2
 rw[Prod.ext_iff]
 split
 ·rename_i h
  have:p.1≠q.1:=fun e=>h ((cmpR_e0 _ _).2 e)
  rw[cmpR_e0]
  grind
 ·rename_i h
  have:p.1=q.1:=(cmpR_e0 _ _).1 (by omega)
  rw[cmpR_e0]
  grind
theorem cmpSq_lt (t u:Sq):cmpSq t u<0↔ltSq t u:=by
 unfold cmpSq ltSq
 split
 ·rename_i h
  have:t.1≠u.1:=fun e=>h ((cmpPq_eq _ _).2 e)
  rw[cmpPq_lt]
  exact⟨.inl,fun h=>h.elim id fun h=>absurd h.1 this⟩
 ·rename_i h
  have:t.1=u.1:=(cmpPq_eq _ _).1 (by omega)
  rw[cmpPq_lt]
  refine⟨fun h=> .inr ⟨this,h⟩,fun h=>h.elim (fun h=> ?_) (fun h=>h.2)⟩
  rw[this] at h
  unfold ltPq at h
  grind
theorem cmpSq_eq (t u:Sq):cmpSq t u=0↔t=u:=by
 unfold cmpSq
 rw[Prod.ext_iff]
 split
 ·rename_i h
  have:t.1≠u.1:=fun e=>h ((cmpPq_eq _ _).2 e)
  rw[cmpPq_eq]
  exact⟨fun h=>absurd h this,fun h=>absurd h.1 this⟩
 ·rename_i h
  have:t.1=u.1:=(cmpPq_eq _ _).1 (by omega)
  rw[cmpPq_eq]
  exact⟨fun h=>⟨this,h⟩,fun h=>h.2⟩
theorem ltPq_irrefl (p:Pq):¬ ltPq p p:=by unfold ltPq;grind
theorem ltPq_trans {p q r:Pq} (h:ltPq p q) (k:ltPq q r):ltPq p r:=by unfold ltPq at *;grind
theorem ltPq_tri (p q:Pq):ltPq p q∨p=q∨ltPq q p:=by
 have:p=q↔p.1=q.1∧p.2=q.2:=Prod.ext_iff
 rw[this]
 unfold ltPq
 grind
theorem ltSq_irrefl (t:Sq):¬ ltSq t t:=by
 rintro (h | h)
 ·exact ltPq_irrefl _ h
 ·exact ltPq_irrefl _ h.2
theorem ltSq_trans {t u v:Sq} (h:ltSq t u) (k:ltSq u v):ltSq t v:=by
 rcases h with h | ⟨h1,h2⟩
 ·rcases k with k | ⟨k1,k2⟩
  ·exact .inl (ltPq_trans h k)
  ·exact .inl (by rw[← k1];exact h)
 ·rcases k with k | ⟨k1,k2⟩
  ·exact .inl (by rw[h1];exact k)
  ·exact .inr ⟨h1.trans k1,ltPq_trans h2 k2⟩
theorem ltSq_tri (t u:Sq):ltSq t u∨t=u∨ltSq u t:=by
 rcases ltPq_tri t.1 u.1 with h | h | h
 ·exact .inl (.inl h)
 ·rcases ltPq_tri t.2 u.2 with k | k | k
  ·exact .inl (.inr ⟨h,k⟩)
  ·exact .inr (.inl (Prod.ext h k))
  ·exact .inr (.inr (.inr ⟨h.symm,k⟩))
 ·exact .inr (.inr (.inl h))
theorem swo_of {A:Type} {cf:A→A→Int} {lt:A→A→Prop} (h:∀ x y,cf x y<0↔lt x y) (hi:∀ x,¬ lt x x) (ht:∀ x y z,lt x y→lt y z→lt x z) (hn:∀ x y z,¬ lt x y→¬ lt y z→¬ lt x z):SWO (ltOf cf) where
 irrefl x:=by unfold ltOf;rw[decide_eq_false_iff_not,h];exact hi x
 trans x y z h1 h2:=by unfold ltOf at *;rw[decide_eq_true_eq,h] at *;exact ht x y z h1 h2
 ntrans x y z h1 h2:=by unfold ltOf at *;rw[decide_eq_false_iff_not,h] at *;exact hn x y z h1 h2
theorem pq_swo:SWO (ltOf cmpPq):=swo_of cmpPq_lt ltPq_irrefl (fun _ _ _=>ltPq_trans) fun x y z h1 h2 h3=>by
 rcases ltPq_tri y x with h | h | h
 ·exact h2 (ltPq_trans h h3)
 ·rw[h] at h2;exact h2 h3
 ·exact h1 h
theorem sq_swo:SWO (ltOf cmpSq):=swo_of cmpSq_lt ltSq_irrefl (fun _ _ _=>ltSq_trans) fun x y z h1 h2 h3=>by
 rcases ltSq_tri y x with h | h | h
 ·exact h2 (ltSq_trans h h3)
 ·rw[h] at h2;exact h2 h3
 ·exact h1 h
theorem key_swo (l:List Sq):SWO (ltOf (keyQ l)):=swo_of (lt:=fun i k=>(l.getD i.toNat sq0).1.1<(l.getD k.toNat sq0).1.1) (fun i k=>cmpR_l0 _ _) (fun x=>Rat.lt_irrefl) (fun x y z h1 h2=>by grind) (fun x y z h1 h2=>by grind)
instance:Inhabited Pq:=⟨(0,0)⟩
def ptAt (e:Nat→List Cell) (i:Nat):Pq:=match qsOf (e i) with
 |some [(x,_),(y,_)]=>(x,y)
 |_=>(0,0)
def ptsL (n:Nat) (e:Nat→List Cell):List Pq:=(List.range n).map (ptAt e)
theorem ptsL_len (n:Nat) (e:Nat→List Cell):(ptsL n e).length=n:=by simp[ptsL]
theorem ptC_cl (p:Pq) (s:Nat):(ptC p s).all Cell.cl=true:=rfl
theorem ptsL_E {l:List Pq} {s:Nat} : ptsL l.length (ptsE l s)=l:=by
 apply List.ext_getElem?
 intro i
 unfold ptsL
 rw[List.getElem?_map]
 rcases Nat.lt_or_ge i l.length with hi | hi
 ·rw[List.getElem?_range hi,List.getElem?_eq_getElem hi]
  show some (ptAt (ptsE l s) i)=some l[i]
  simp only[ptAt,ptsE,qsC,qsOf,List.getD,List.getElem?_eq_getElem hi,Option.getD_some]
 ·rw[List.getElem?_eq_none (by simpa using hi),List.getElem?_eq_none hi]
  rfl
theorem sgsL_E {l:List Sq} {s:Nat} : sgsL l.length (sgE l s)=l:=by
 apply List.ext_getElem?
 intro i
 unfold sgsL
 rw[List.getElem?_map]
 rcases Nat.lt_or_ge i l.length with hi | hi
 ·rw[List.getElem?_range hi,List.getElem?_eq_getElem hi]
  show some (sgAt (sgE l s) i).1=some l[i]
  simp only[sgAt,sgE,sqC,qsC,qsOf,List.getD,List.getElem?_eq_getElem hi,Option.getD_some]
 ·rw[List.getElem?_eq_none (by simpa using hi),List.getElem?_eq_none hi]
  rfl
theorem intsL_len (n:Nat) (e:Nat→List Cell):(intsL n e).length=n:=by simp[intsL]
def sortPtR (s:Nat):Run:=fun b avs _=>match avs with
 |[.s false [.hd k],.s false [.clo g []]]=>match b k with
  |some (.row T 8 n e)=>match Nat.beq g 7 && Nat.beq T 39 with
   |true=>some { val:=some (.tup []),set:=[(k,.rowP 39 8 n fun e'=>∃ l':List Pq,l'.Perm (ptsL n e)∧l'.Pairwise (fun p q=>¬ cmpPq q p<0)∧e'=ptsE l' s)],ps:=[∀ i,i<n→CsLe (e i) (ptsE (ptsL n e) s i),s≤50000∧n≤1000000000000] }
   |false=>none
  |_=>none
 |_=>none
def sortSgR (s:Nat):Run:=fun b avs _=>match avs with
 |[.s false [.hd k],.s false [.clo g []]]=>match b k with
  |some (.row T 16 n e)=>match Nat.beq g 18 && Nat.beq T 41 with
   |true=>some { val:=some (.tup []),set:=[(k,.rowP 41 16 n fun e'=>∃ l':List Sq,l'.Perm (sgsL n e)∧l'.Pairwise (fun p q=>¬ cmpSq q p<0)∧e'=sgE l' s)],ps:=[∀ i,i<n→CsLe (e i) (sgE (sgsL n e) s i),s≤50000∧n≤1000000000000] }
   |false=>none
  |_=>none
 |_=>none
def sortIxR (s:Nat):Run:=fun b avs _=>match avs with
 |[.s false [.hd k],.s false [.clo g [.own kb 0]]]=>match b k,b kb with
  |some (.row T 1 n e),some (.st _ [.hd kr])=>match b kr with
   |some (.row _ 16 m eb)=>match Nat.beq g 13 && Nat.beq T 3 with
    |true=>some { val:=some (.tup []),set:=[(k,.rowP 3 1 n fun e'=>∃ l':List Int,l'.Perm (intsL n e)∧l'.Pairwise (fun i j=>¬ keyQ (sgsL m eb) j i<0)∧e'=intsE l')],ps:=[∀ i,i<n→CsLe (e i) (intsE (intsL n e) i),∀ x∈intsL n e,0≤x∧x<(m:Int),AVle (.s false [.row 16 m eb]) (.s false [.row 16 (sgsL m eb).length (sgE (sgsL m eb) s)]),s≤50000∧n≤1000000000000] }
    |false=>none
   |_=>none
  |_,_=>none
 |_=>none
theorem sortPt_ok (D:Prop) (s B:Nat):RunOK Tryz.prog D B 16 (sortPtR s):=by
 refine⟨by kernel_rfl,fun b avs t e h hp G F w vs V hvs=> ?_⟩
 unfold sortPtR at h
 split at h
 ·rename_i k g
  split at h
  ·rename_i T n e hb
   split at h
   ·rename_i hc
    cases h
    rw[Bool.and_eq_true] at hc
    have:=beq_eq hc.1
    subst this
    have:=beq_eq hc.2
    subst this
    obtain⟨hp1,⟨hp2,hp3⟩,_⟩:=hp
    refine sort_core (cof:=fun p:Pq=>ptC p s) (caps:=[]) (V:=fun _=>True) (fun a=>ptC_cl a s) (fun _=>rfl) (fun h=>by cases h) sortPt_v sortPt_nil (pcmp_ok True B) pq_swo hb (ptsL_len n e) (fun i hi=>hp1 i hi) (by omega) (fun _ _=>trivial) (fun x y _ _=>⟨_,rfl,⟨CsLe.refl _,CsLe.refl _,⟨hp2,hp2,hp2,hp2⟩,trivial⟩,rfl,rfl,rfl⟩) V hvs (fun e' he'=>he') rfl rfl
   ·cases h
  ·cases h
 ·cases h
theorem sortSg_ok (D:Prop) (s B:Nat):RunOK Tryz.prog D B 17 (sortSgR s):=by
 refine⟨by kernel_rfl,fun b avs t e h hp G F w vs V hvs=> ?_⟩
 unfold sortSgR at h
 split at h
 ·rename_i k g
  split at h
  ·rename_i T n e hb
   split at h
   ·rename_i hc
    cases h
    rw[Bool.and_eq_true] at hc
    have:=beq_eq hc.1
    subst this
    have:=beq_eq hc.2
    subst this
    obtain⟨hp1,⟨hp2,hp3⟩,_⟩:=hp
    have hmx:max (mx4 s s s s) (mx4 s s s s)≤50000:=by unfold mx4;omega
    refine sort_core (cof:=fun p:Sq=>sqC p s) (caps:=[]) (V:=fun _=>True) (fun a=>sqC_cl a s) (fun _=>rfl) (fun h=>by cases h) sortSg_v sortSg_nil (order_ok True B) sq_swo hb (sgsL_len n e) (fun i hi=>hp1 i hi) (by omega) (fun _ _=>trivial) (fun x y _ _=>⟨_,rfl,⟨CsLe.refl _,CsLe.refl _,hmx,trivial⟩,rfl,rfl,rfl⟩) V hvs (fun e' he'=>he') rfl rfl
   ·cases h
  ·cases h
 ·cases h
theorem sortIx_ok (D:Prop) (s B:Nat):RunOK Tryz.prog D B 12 (sortIxR s):=by
 refine⟨by kernel_rfl,fun b avs t e h hp G F w vs V hvs=> ?_⟩
 unfold sortIxR at h
 split at h
 ·rename_i k g kb
  split at h
  ·rename_i T n e Tb kr hb hbb
   split at h
   ·rename_i Tr m eb hbr
    split at h
    ·rename_i hc
     cases h
     rw[Bool.and_eq_true] at hc
     have:=beq_eq hc.1
     subst this
     have:=beq_eq hc.2
     subst this
     obtain⟨hp1,hp2,hp3,⟨hp4,hp5⟩,_⟩:=hp
     have hkb:kb≠k:=fun e=>by rw[e,hb] at hbb;cases hbb
     have hkr:kr≠k:=fun e=>by rw[e,hb] at hbr;cases hbr
     refine sort_core (cof:=fun x:Int=>[.v (.int .i64 x)]) (caps:=[.own kb 0]) (V:=fun x:Int=>0≤x∧x<(m:Int)) (fun a=>rfl) (fun _=>rfl) (fun _=>rfl) sortIx_v sortIx_nil (readC_ok (key_ok True s) B) (key_swo (sgsL m eb)) hb (intsL_len n e) (fun i hi=>hp1 i hi) (by omega) hp2 (fun x y hx hy=> ?_) V hvs (fun e' he'=>he') rfl rfl
     have e1:readC (runC (keyS s)) (fun j=>if j=k then none else b j) [.s false [.v (.int .i64 x)],.s false [.v (.int .i64 y)],.s false [.own kb 0]] 0=some { val:=some (.s false [.v (.int .i64 (keyQ (sgsL m eb) x y))]),ps:=[(0≤x∧x<(m:Int))∧0≤y∧y<(m:Int),AVle (.s false [.row 16 m eb]) (.s false [.row 16 (sgsL m eb).length (sgE (sgsL m eb) s)]),s≤50000] } :=by
      have f1:frozB (fun j=>if j=k then none else b j) (.own kb 0)= .el 1 1 (fun _=>[.row 16 m eb]) 0 0:=by
       simp only[frozB,if_neg hkb,hbb,List.map_cons,List.map_nil,frozB1,if_neg hkr,hbr]
       rfl
      unfold readC
      simp only[List.map_cons,List.map_nil,frozV,f1]
      rfl
     exact⟨_,e1,⟨⟨hx,hy⟩,hp3,hp4,trivial⟩,rfl,rfl,rfl⟩
    ·cases h
   ·cases h
  ·cases h
 ·cases h
set_option maxRecDepth 100000 in
theorem comp_ok (D:Prop) (s B:Nat):RunOK Tryz.prog D B 19 (compR s):=by
 refine fn_own (c:=Tryz.f19.body.getD .skip) (ctx_ok (gCp_ok D)) (by kernel_rfl) Tryz.func19 (by kernel_rfl) (by kernel_rfl) ?_ B
 intro b avs t e h hp
 unfold compR at h
 split at h
 ·rename_i k g
  split at h
  ·rename_i T n e hb
   split at h
   ·rename_i hc
    cases h
    rw[Bool.and_eq_true] at hc
    have:=beq_eq hc.1
    subst this
    have:=beq_eq hc.2
    subst this
    obtain⟨hp1,⟨hp2,hp3⟩,_⟩:=hp
    have hl:=sgsL_len n e
    have hle1:(sgsL n e).length≤1000000000000:=by rw[hl];exact hp3
    have hp2':s≤50000:=hp2
    have hset1:∃ b',lk [(t,ABlk.row 41 16 (dedA (sgsL n e)).length (sgE (dedA (sgsL n e)) s))] t=some b':=⟨_,by simp only[lk,Nat.beq_refl];rfl⟩
    exact⟨{
     σ :=[(1000000,k)]
     ρ :=[(90,t)]
     avs':=[.s false [.hd 1000000],.s false [.clo 20 []]]
     blks:=[(1000000,.row 41 16 (sgsL n e).length (sgE (sgsL n e) s))]
     inv:=[(4,cp1_inv (sgsL n e) s),(9,cp2_inv (sgsL n e) s),(1000002,pre [] [.ren 1000000 90]),(1000015,pre [] [.cut 4 90]),(1000016,pre [] [.ren 1000000 90])]
     val:= .s false [.hd 90]
     kb:=[(90,.row 41 16 (dedA (sgsL n e)).length (sgE (dedA (sgsL n e)) s))]
     hval:=rfl
     hset:=fun x b' h=>by obtain⟨rfl,rfl⟩:=lk_one h;exact⟨90,_,rfl,rfl,rfl⟩
     hkb:=fun j x h=>by
      obtain⟨rfl,rfl⟩:=lk_one h
      exact⟨_,rfl,rfl,(fun k hk=>by cases hk),hset1⟩
     hvn:=fun k hk=>by
      have:k=90:=by simpa[AV.nm,Cell.nm,Cell.nm0] using hk
      subst this
      exact⟨t,rfl⟩
     hρ :=fun j j' x h1 h2=>(lk_one h1).1.symm.trans (lk_one h2).1
     hσ :=fun j j' x h1 h2=>(lk_one h1).1.symm.trans (lk_one h2).1
     hhi:=fun j x h=>by obtain⟨e,_⟩:=lk_one h;omega
     hnw:=fun j x h=>by obtain⟨_,rfl⟩:=lk_one h;exact .inl (List.mem_singleton.2 rfl)
     hold:=fun j x h=>by obtain⟨_,rfl⟩:=lk_one h;exact .inr (List.mem_singleton.2 rfl)
     hle:=AvsLe.refl _
     hlen:=by rw[Tryz.ntmps19];simp
     hblk:=fun j b0 h=>by
      obtain⟨rfl,rfl⟩:=lk_one h
      exact⟨rfl,k,rfl,_,hb,ABle.row hl.symm hp1 (fun i _=>sqC_cl _ _)⟩
     hvc:=by
      exact comp_true (sgsL n e) s hle1 hp2' }⟩
   ·cases h
  ·cases h
 ·cases h
end Go.Proofs.YtmagoiniahpofaaGreat
