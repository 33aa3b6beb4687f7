/-
  SplitCovers returns true for every input; each argument reads behind the call as it read before. No condition.
-/
import Derived.Test.YtcmplpkmfbhpdaaGreatRows
import Derived.Test.YtcmplpkmfbhpdaaGreatSpL
import Derived.Test.YtcmplpkmfbhpdaaGreatRnZ
import Derived.Test.YtcmplpkmfbhpdaaGreatSpU
import Derived.WalkKit
import Derived.ProofKit
namespace Go.Proofs.YtcmplpkmfbhpdaaGreat
open Go Go.ChangeShapes Go.WideShapes Go.ChangeAt Go.RowKit
theorem Tryz.own:ownKnob Tryz.prog.godebug=none:=by kernel_rfl
theorem Tryz.laidOutAll:laidOutB Tryz.prog=true:=by kernel_rfl
theorem trodAll_below {P:Program} (hL:laidOutB P=true) {H:Type} {enc:TypeId × Value→H} {W W':World} (hb:Below W.heap.size W W'):∀ {ts:List TypeId} {vs:List Value} {ds:List (DataW H)} {ps:List MemPlace},
  (ts.all fun t=>P.readableRec t && decide (t<P.types.size))=true→DataW.TrodAll enc P W 0 (fun _=>true) true ts vs ds ps→(∀ x∈ps,x.block<W.heap.size)→
  DataW.TrodAll enc P W' 0 (fun b=>decide (b<W.heap.size)) true ts vs ds ps:=by
 intro ts
 induction ts with
 |nil=>
  intro vs ds ps _ h _
  cases vs<;>cases ds<;>simp_all [DataW.TrodAll]
 |cons t ts ih=>
  intro vs ds ps hr h hlt
  obtain⟨v,vs',d,ds',p,q,rfl,rfl,rfl,h1,h2⟩:=trodAll_cons h
  simp only[List.all_cons,Bool.and_eq_true,decide_eq_true_eq] at hr
  exact⟨p,q,Below.trod hL hr.1.1 hr.1.2 h1 hb (fun x hx=>hlt x (List.mem_append.2 (.inl hx))),
   ih (by simpa using hr.2) h2 (fun x hx=>hlt x (List.mem_append.2 (.inr hx))),rfl⟩
theorem post_true {H:Type} {enc:TypeId × Value→H} {f:Func} {s:ChangeSpec} {W W':World} {args:Array Value} {ds:List (DataW H)} {before:List MemPlace}
  (hW:DataW.Whole enc Tryz.prog f.params.toList s.vars false W args.toList ds [] before) (hb:Below W.heap.size W W') (hvars:s.vars=[])
  (hspec:s.fn H (ds++[])= { results:=[.lit (.bool true)],args:=ds }) (hres:f.resultTypes= #[4])
  (hread:(f.params.toList.all fun t=>Tryz.prog.readableRec t && decide (t<Tryz.prog.types.size))=true) :
  s.post enc Tryz.prog f false true false false W args (.bool true) W':=by
 have hlt:=hW.lt
 have hW':=hW
 obtain⟨p,q,hA,hV,rfl,hfz,hnd⟩:=hW
 rw[hvars] at hV
 have hq:q=[]:=hV
 subst hq
 refine⟨ds,[],_,[],p,[],hW',?_,?_,?_,hb.frame _,fun h=>by cases h⟩
 ·rw[hspec,hres]
  exact trodAll_mk1 (shut_bool Tryz.underlying4 true)
 ·rw[hspec]
  exact trodAll_below Tryz.laidOutAll hb hread hA (fun x hx=>hlt x (by simpa using hx))
 ·rw[hspec,hvars]
  rfl
end Go.Proofs.YtcmplpkmfbhpdaaGreat
namespace Go.Proofs.YtcmplpkmfbhpdaaGreat
open Go Go.RowKit
theorem call_of {P:Program} {D:Prop} {f:FuncId} {run:Run} (h:RunOK P D 0 f run) {avs:List AV} {b:Bool} {e:Eff} {w:World} {vs:List Value} (hr:run (fun _=>none) avs 0=some e) (hp:allP e.ps) (hv:e.val=some (.s false [.v (.bool b)]))
  {F:Nat→Prop} {G:Nat→GV} (hF:∀ g,F g→g<w.heap.size) (hvs:AvsOk (GOk G F w) avs vs):Calls P f vs.toArray w fun en w'=>en= .returned (.bool b)∧Below w.heap.size w w':=by
 refine (h.2 (fun _=>none) avs 0 e hr hp G F w vs ⟨Nat.zero_le _,hF,fun k b h=>(by cases h),fun k k' h=>absurd rfl h,fun k g h=>absurd rfl h,fun t av h=>(by cases h)⟩ hvs).mono ?_
 rintro en w' ⟨v,rfl,G',F',p⟩
 have h1:=p.v _ hv
 have h2:=(v_inv (one_inv h1)).1
 subst h2
 exact⟨rfl,p.os,p.tape,p.out,p.sz,fun g hg=>p.h g hg fun k _ hk=>absurd rfl hk⟩
end Go.Proofs.YtcmplpkmfbhpdaaGreat
namespace Go.Proofs.YtcmplpkmfbhpdaaGreat
open Go Go.RowKit
def gWy:List (Nat × Run):=[(17,addC),(18,subC),(19,mulC)]
def wayQ (s:Sq) (k:Rat):Pq:=(s.1.1+(s.2.1-s.1.1)*k,s.1.2+(s.2.2-s.1.2)*k)
def wyS (s t:Nat):Nat:=addS s (mulS (addS s s) t)
def oneE (k:Rat) (s:Nat):Nat→List Cell:=fun _=>qC k s
theorem way_vc (z:Sq) (s:Nat) (k:Rat) (t:Nat):vc Tryz.prog (lk gWy) Tryz.f16.ntmps [] (Tryz.f16.body.getD .skip) ⟨entryS [.s true (sqC z s),.s false [.el 4 1 (oneE k t) 0 0]] 0,[]⟩ (retVC Tryz.prog Tryz.f16.results.toList (.s true (ptC (wayQ z k) (wyS s t))))=(SmC (qsC [(Prod.fst (Prod.snd z),s)])∧SmC (qsC [(Prod.fst (Prod.fst z),s)])∧(s≤50000∧s≤50000)∧SmC (qsC [(Prod.fst (Prod.snd z)-Prod.fst (Prod.fst z),addS s s)])∧SmC (qsC [(k,t)])∧(addS s s≤50000∧t≤50000)∧SmC (qsC [(Prod.fst (Prod.fst z),s)])∧SmC (qsC [((Prod.fst (Prod.snd z)-Prod.fst (Prod.fst z))*k,mulS (addS s s) t)])∧(s≤50000∧mulS (addS s s) t≤50000)∧SmC (qsC [(Prod.snd (Prod.snd z),s)])∧SmC (qsC [(Prod.snd (Prod.fst z),s)])∧(s≤50000∧s≤50000)∧SmC (qsC [(Prod.snd (Prod.snd z)-Prod.snd (Prod.fst z),addS s s)])∧SmC (qsC [(k,t)])∧(addS s s≤50000∧t≤50000)∧SmC (qsC [(Prod.snd (Prod.fst z),s)])∧SmC (qsC [((Prod.snd (Prod.snd z)-Prod.snd (Prod.fst z))*k,mulS (addS s s) t)])∧(s≤50000∧mulS (addS s s) t≤50000)∧AVle (AV.s true (qsC [(Prod.fst (Prod.fst z)+(Prod.fst (Prod.snd z)-Prod.fst (Prod.fst z))*k,addS s (mulS (addS s s) t)),(Prod.snd (Prod.fst z)+(Prod.snd (Prod.snd z)-Prod.snd (Prod.fst z))*k,addS s (mulS (addS s s) t))])) (AV.s true (ptC (Prod.fst (Prod.fst z)+(Prod.fst (Prod.snd z)-Prod.fst (Prod.fst z))*k,Prod.snd (Prod.fst z)+(Prod.snd (Prod.snd z)-Prod.snd (Prod.fst z))*k) (wyS s t)))):=by kernel_rfl
def gOn:List (Nat × Run):=[(21,runC onS)]
def anyOn (l:List Sq) (p:Pq):Bool:=l.any fun s=>onB s.1.1 s.1.2 s.2.1 s.2.2 p.1 p.2
def von_inv (l:List Sq) (s:Nat) (p:Pq) (t:Nat):LInv:=⟨Nat,fun k=>k≤l.length,fun k=>⟨[(0,.s false [.row 16 l.length (sgE l s)]),(3,.s false [.own 3 0]),(5,.s false [.v (.bool (anyOn (l.take k) p))]),(6,.s false [.v (.int .i64 (k:Nat))])],[(3,.st 41 (ptC p t))]⟩,fun k=>l.length-k,[],[],none⟩
theorem von_vc (l:List Sq) (s:Nat) (p:Pq) (t:Nat):vc Tryz.prog (lk gOn) Tryz.f20.ntmps [(3,von_inv l s p t)] (Tryz.f20.body.getD .skip) ⟨entryS [.s false [.row 16 l.length (sgE l s)],.s true (ptC p t)] 0,[]⟩ (retVC Tryz.prog Tryz.f20.results.toList (.s false [.v (.bool (anyOn l p))]))=((Exists fun (i:Nat)=>i≤List.length l∧(SmA (AV.s false [Cell.row 16 (List.length l) (sgE l s)])∧SmA (AV.s false [Cell.own 3 0])∧AVle (AV.s false [Cell.f]) (AV.s false [Cell.v (Value.bool (anyOn (List.take i l) p))])∧AVle (AV.s false [Cell.v (Value.int IntKind.i64 (0:Int))]) (AV.s false [Cell.v (Value.int IntKind.i64 (↑i:Int))])∧True)∧SmB (ABlk.st 41 (ptC p t))∧True)∧∀ (i:Nat),i≤List.length l→(decide ((↑i:Int)<(↑(List.length l):Int))=true→(anyOn (List.take i l) p=true→anyOn (List.take i l) p=true∧Exists fun (i':Nat)=>i'≤List.length l∧List.length l-i'<List.length l-i∧(SmA (AV.s false [Cell.row 16 (List.length l) (sgE l s)])∧SmA (AV.s false [Cell.own 3 0])∧AVle (AV.s false [Cell.t]) (AV.s false [Cell.v (Value.bool (anyOn (List.take i' l) p))])∧AVle (AV.s false [Cell.v (Value.int IntKind.i64 (IntKind.wrap IntKind.i64 ((↑i:Int)+(1:Int))))]) (AV.s false [Cell.v (Value.int IntKind.i64 (↑i':Int))])∧True)∧SmB (ABlk.st 41 (ptC p t))∧True)∧(anyOn (List.take i l) p=false→anyOn (List.take i l) p=false∧((0:Int)≤(↑i:Int)∧(↑i:Int)<(↑(List.length l):Int))∧SmC (sqC (List.getD l (Int.toNat (↑i:Int)) sq0) s)∧SmC (ptC p t)∧(s≤10000∧s≤10000∧s≤10000∧s≤10000∧t≤10000∧t≤10000)∧Exists fun (i':Nat)=>i'≤List.length l∧List.length l-i'<List.length l-i∧(SmA (AV.s false [Cell.row 16 (List.length l) (sgE l s)])∧SmA (AV.s false [Cell.own 3 0])∧AVle (AV.s false [Cell.v (Value.bool (onB (Prod.fst (Prod.fst (List.getD l (Int.toNat (↑i:Int)) sq0))) (Prod.snd (Prod.fst (List.getD l (Int.toNat (↑i:Int)) sq0))) (Prod.fst (Prod.snd (List.getD l (Int.toNat (↑i:Int)) sq0))) (Prod.snd (Prod.snd (List.getD l (Int.toNat (↑i:Int)) sq0))) (Prod.fst p) (Prod.snd p)))]) (AV.s false [Cell.v (Value.bool (anyOn (List.take i' l) p))])∧AVle (AV.s false [Cell.v (Value.int IntKind.i64 (IntKind.wrap IntKind.i64 ((↑i:Int)+(1:Int))))]) (AV.s false [Cell.v (Value.int IntKind.i64 (↑i':Int))])∧True)∧SmB (ABlk.st 41 (ptC p t))∧True))∧(decide ((↑i:Int)<(↑(List.length l):Int))=false→AVle (AV.s false [Cell.v (Value.bool (anyOn (List.take i l) p))]) (AV.s false [Cell.v (Value.bool (anyOn l p))]))):=by kernel_rfl
theorem gWy_ok:∀ p∈gWy,∀ B,RunOK Tryz.prog False B p.1 p.2:=ctx_cons addC_ok (ctx_cons subC_ok (ctx_cons mulC_ok fun p hp=>by cases hp))
def wayS:Spec
 |[.q [(x1,s1),(y1,t1),(x2,s2),(y2,t2)],.o (.s false [.el 4 1 e 0 0])]=>some (.s true (ptC (wayQ ((x1,y1),(x2,y2)) (ratAt e 0).1) (wyS s1 (ratAt e 0).2)),[t1=s1∧s2=s1∧t2=s1,CsLe (e 0) (qC (ratAt e 0).1 (ratAt e 0).2),s1≤10000,(ratAt e 0).2≤10000])
 |_=>none
theorem CLe.el1 {sz k off:Nat} {e e':Nat→List Cell} (h:CsLe (e 0) (e' 0)) (hcl:(e' 0).all Cell.cl=true):CLe (.el sz 1 e k off) (.el sz 1 e' k off):=
 CLe.el (fun i hi=>by
  obtain rfl:i=0:=by omega
  exact h) (fun i hi=>by
   obtain rfl:i=0:=by omega
   exact hcl)
set_option maxRecDepth 100000 in
theorem way_ok (B:Nat):RunOK Tryz.prog False B 16 (runC wayS):=by
 refine fn_specR (c:=Tryz.f16.body.getD .skip) (ctx_ok gWy_ok) (by kernel_rfl) Tryz.func16 (by kernel_rfl) (by kernel_rfl) ?_ B
 intro pvs av ps h hp
 unfold wayS at h
 split at h
 ·rename_i x1 s1 y1 t1 x2 s2 y2 t2 e
  cases h
  obtain⟨⟨rfl,rfl,rfl⟩,h1,h2,h3,_⟩:=hp
  refine⟨[.s true (sqC ((x1,y1),(x2,y2)) t2),.s false [.el 4 1 (oneE (ratAt e 0).1 (ratAt e 0).2) 0 0]],[],AvsLe.cons (AVle.refl _) (AvsLe.cons (AVle.one (CLe.el1 h1 rfl)) AvsLe.nil),by rw[Tryz.ntmps16];simp,?_⟩
  rw[way_vc]
  simp only[SmC,cs_refl,true_and]
  unfold mulS addS
  exact⟨by omega,by omega,by omega,by omega,by omega,by omega,AVle.refl _⟩
 ·cases h
theorem gOn_ok:∀ p∈gOn,∀ B,RunOK Tryz.prog False B p.1 p.2:=ctx_cons on_ok fun p hp=>by cases hp
theorem anyOn_succ {l:List Sq} {p:Pq} {k:Nat} (hk:k<l.length):anyOn (l.take (k+1)) p=(anyOn (l.take k) p || onB (l.getD k sq0).1.1 (l.getD k sq0).1.2 (l.getD k sq0).2.1 (l.getD k sq0).2.2 p.1 p.2):=by
 unfold anyOn
 rw[List.take_succ_eq_append_getElem hk,List.any_append,getD_at hk]
 simp
theorem anyOn_iff (l:List Sq) (p:Pq):anyOn l p=true↔∃ s,s∈l∧OnQ s p:=by
 unfold anyOn
 rw[List.any_eq_true]
 simp only[on_iff]
def vonS:Spec
 |[.o (.s false [.row 16 n e]),.q [(x,s),(y,t)]]=>some (.s false [.v (.bool (anyOn (sgsL n e) (x,y)))],[∀ i,i<n→CsLe (e i) (sgE (sgsL n e) (szS e) i),szS e≤10000∧s≤10000,t=s,n≤1000000000000])
 |_=>none
set_option maxRecDepth 100000 in
theorem von_true (l:List Sq) (s:Nat) (p:Pq) (t:Nat) (hs:s≤10000) (ht:t≤10000) (hn:l.length≤1000000000000):vc Tryz.prog (lk gOn) Tryz.f20.ntmps [(3,von_inv l s p t)] (Tryz.f20.body.getD .skip) ⟨entryS [.s false [.row 16 l.length (sgE l s)],.s true (ptC p t)] 0,[]⟩ (retVC Tryz.prog Tryz.f20.results.toList (.s false [.v (.bool (anyOn l p))])):=by
 rw[von_vc]
 simp only[SmA,SmB,SmC,cs_refl,av_refl,ab_refl,true_and,and_true,decide_eq_true_eq,decide_eq_false_iff_not,Int.toNat_natCast]
 refine⟨⟨0,Nat.zero_le _,AVle.ff rfl,AVle.ik rfl⟩,fun k hk=>⟨fun h1=>⟨fun h2=>⟨h2,k+1,by omega,by omega,AVle.tt ?_,AVle.ik (by rw[IntKind.wrap_i64];omega)⟩,fun h2=>⟨h2,by omega,by omega,k+1,by omega,by omega,AVle.bool ?_,AVle.ik (by rw[IntKind.wrap_i64];omega)⟩⟩,fun h1=>AVle.bool ?_⟩⟩
 ·rw[anyOn_succ (by omega),h2];rfl
 ·rw[anyOn_succ (by omega),h2];rfl
 ·rw[List.take_of_length_le (by omega)]
set_option maxRecDepth 100000 in
theorem von_ok (B:Nat):RunOK Tryz.prog False B 20 (runC vonS):=by
 refine fn_specR (c:=Tryz.f20.body.getD .skip) (ctx_ok gOn_ok) (by kernel_rfl) Tryz.func20 (by kernel_rfl) (by kernel_rfl) ?_ B
 intro pvs av ps h hp
 unfold vonS at h
 split at h
 ·rename_i n e x s y t
  cases h
  obtain⟨h1,⟨h2,h3⟩,rfl,h4,_⟩:=hp
  exact⟨[.s false [.row 16 (sgsL n e).length (sgE (sgsL n e) (szS e))],.s true (ptC (x,y) t)],[(3,von_inv (sgsL n e) (szS e) (x,y) t)],AvsLe.cons (AVle.one (CLe.rowC (sgsL_len n e).symm h1 fun _ _=>sqC_cl _ _)) (AvsLe.cons (AVle.refl _) AvsLe.nil),by rw[Tryz.ntmps20];simp,von_true _ _ _ _ h2 h3 (by rw[sgsL_len];exact h4)⟩
 ·cases h
noncomputable def gSc:List (Nat × Run):=[(13,runC segsS),(11,readO ofC),(12,runC kn14S),(15,fofC),(22,runC pcmpS),(16,readC (runC wayS)),(20,readC (runC vonS))]
theorem gSc_ok:∀ p∈gSc,∀ B,RunOK Tryz.prog False B p.1 p.2:=ctx_cons segs_ok (ctx_cons (readO_ok ofC_ok) (ctx_cons kn14_ok (ctx_cons fofC_ok (ctx_cons (pcmp_ok False) (ctx_cons (readC_ok way_ok) (ctx_cons (readC_ok von_ok) fun p hp=>by cases hp))))))
def partK14 (part:Int):Rat:=Rat.divInt (IntKind.i64.wrap (Int.tmod (IntKind.u64.wrap part) 101)) 100
def scSl:List (Nat × AV):=[(7,.s false [.hd 22]),(11,.s false [.clo 16 [.own 9 0]]),(12,.s false [.clo 20 []])]
noncomputable def scBl (L:List Sq) (part:Int):List (Nat × ABlk):=[(22,.row 43 16 (ofP L).length (sgE (ofP L) 88)),(9,.st 39 (qC (partK14 part) 4))]
noncomputable def sc1_inv (L:List Sq) (part:Int):LInv:=⟨Nat,fun k=>k≤L.length,fun k=>⟨[(5,.s false [.row 16 L.length (sgE L 4)]),(13,.s false [.v (.int .i64 (k:Nat))])]++scSl,scBl L part⟩,fun k=>L.length-k,[],[],none⟩
noncomputable def sc2_inv (L:List Sq) (part:Int):LInv:=⟨Nat,fun k=>k≤(ofP L).length,fun k=>⟨[(5,.s false [.row 16 L.length (sgE L 4)]),(14,.s false [.v (.int .i64 (k:Nat))])]++scSl,scBl L part⟩,fun k=>(ofP L).length-k,[],[],none⟩
noncomputable def scJ (L:List Sq) (part:Int):List (Nat × LInv):=[(9,sc1_inv L part),(14,sc2_inv L part),(1000001,pre [] [.say [(5,.s false [.row 16 L.length (sgE L 4)])] []]),(1000002,pre [] [.say [(7,.s false [.hd 22]),(8,.s false [.v (errV L.length)])] [(22,.row 43 16 (ofP L).length (sgE (ofP L) 88))]]),(1000005,pre [] [.say [] [(9,.st 39 (qC (partK14 part) 4))]])]
noncomputable def scI (l:List PQ) (part:Int):List (Nat × LInv):=scJ (sqsOf (l.take 14)) part
theorem sc_vc (l:List PQ) (part:Int):vc Tryz.prog (lk gSc) Tryz.f5.ntmps (scI l part) (Tryz.f5.body.getD .skip) ⟨entryS [.s false [.row 6 l.length (pqE l)],.s false [.v (.int .i64 part)]] 0,[]⟩ (retVC Tryz.prog Tryz.f5.results.toList (.s false [.v (.bool true)]))=(let k2:=sqsOf (List.take 14 l);let k5:=AV.s false [Cell.clo 16 [Cell.own 9 0]];let k6:=List.length k2;let k7:=AV.s false [Cell.clo 20 []];let k9:=AV.s false [Cell.row 16 k6 (sgE k2 4)];let k12:=AV.s false [Cell.v (Value.bool true)];let k13:=(-9223372036854775808:Int);let k14:=(9223372036854775807:Int);let k15:=sgsL k6 (sgE k2 4);let k17:=AV.s false [Cell.hd 22];let k18:=List.length (ofP k2);let k19:=(0:Int);let k20:=IntKind.wrap IntKind.i64 (Int.tmod (IntKind.wrap IntKind.u64 part) (101:Int));let k21:=(if 20000<List.length k2 then (2:Int) else k19) != k19;let k22:=AV.s false [Cell.f];let k23:=sgsL k18 (sgE (ofP k2) 88);let k24:=(↑k6:Int);let k25:=AV.s false [Cell.v (Value.int IntKind.i64 k19)];let k26:=(partK14 part,4);let k27:=List.length l;let k28:=fun (zz:Nat)=>(↑zz:Int);let k29:=qsC [(Prod.fst k26,4)];let k30:=ofP k15;let k31:=(↑k18:Int);let k32:=(100:Int);let k0:=fun (zz:Nat)=>(Prod.fst (Prod.fst (Prod.fst (List.getD (ofP k2) (Int.toNat (k28 zz)) sq0)),Prod.snd (Prod.fst (List.getD (ofP k2) (Int.toNat (k28 zz)) sq0)))+(Prod.fst (Prod.fst (Prod.snd (List.getD (ofP k2) (Int.toNat (k28 zz)) sq0)),Prod.snd (Prod.snd (List.getD (ofP k2) (Int.toNat (k28 zz)) sq0)))-Prod.fst (Prod.fst (Prod.fst (List.getD (ofP k2) (Int.toNat (k28 zz)) sq0)),Prod.snd (Prod.fst (List.getD (ofP k2) (Int.toNat (k28 zz)) sq0))))*Prod.fst k26,Prod.snd (Prod.fst (Prod.fst (List.getD (ofP k2) (Int.toNat (k28 zz)) sq0)),Prod.snd (Prod.fst (List.getD (ofP k2) (Int.toNat (k28 zz)) sq0)))+(Prod.snd (Prod.fst (Prod.snd (List.getD (ofP k2) (Int.toNat (k28 zz)) sq0)),Prod.snd (Prod.snd (List.getD (ofP k2) (Int.toNat (k28 zz)) sq0)))-Prod.snd (Prod.fst (Prod.fst (List.getD (ofP k2) (Int.toNat (k28 zz)) sq0)),Prod.snd (Prod.fst (List.getD (ofP k2) (Int.toNat (k28 zz)) sq0))))*Prod.fst k26);let k4:=ABlk.row 43 16 k18 (sgE (ofP k2) 88);let k8:=ABlk.st 39 (qsC [k26]);let k10:=fun (zz:Nat)=>(AV.s false [Cell.v (Value.int IntKind.i64 (k28 zz))]);let k11:=fun (zz:Nat)=>(AV.s false [Cell.v (Value.int IntKind.i64 (IntKind.wrap IntKind.i64 ((k28 zz)+(1:Int))))]);let k16:=fun (zz:Nat)=>(List.getD k2 (Int.toNat (k28 zz)) sq0);let k34:=fun (zz:Nat)=>(!anyOn k15 (Prod.fst (k0 zz),Prod.snd (k0 zz)));let k1:=fun (zz:Nat)=>(Prod.fst (Prod.fst (Prod.fst (k16 zz)),Prod.snd (Prod.fst (k16 zz)))+(Prod.fst (Prod.fst (Prod.snd (k16 zz)),Prod.snd (Prod.snd (k16 zz)))-Prod.fst (Prod.fst (Prod.fst (k16 zz)),Prod.snd (Prod.fst (k16 zz))))*Prod.fst k26,Prod.snd (Prod.fst (Prod.fst (k16 zz)),Prod.snd (Prod.fst (k16 zz)))+(Prod.snd (Prod.fst (Prod.snd (k16 zz)),Prod.snd (Prod.snd (k16 zz)))-Prod.snd (Prod.fst (Prod.fst (k16 zz)),Prod.snd (Prod.fst (k16 zz))))*Prod.fst k26);let k3:=fun (zz:Nat)=>(cmpP2 (Prod.fst (Prod.fst (k16 zz))) (Prod.snd (Prod.fst (k16 zz))) (Prod.fst (Prod.snd (k16 zz))) (Prod.snd (Prod.snd (k16 zz))) != k19);let k33:=fun (zz:Nat)=>(!anyOn k23 (Prod.fst (k1 zz),Prod.snd (k1 zz)));(∀ (i:Nat),i<List.length l→CsLe (pqE l i) (pqE (pqL k27 fun (a:Nat)=>pqE l a) i))∧(∀ (p:PQ),List.Mem p (pqL k27 fun (a:Nat)=>pqE l a)→(k13≤PQ.ax p∧PQ.ax p≤k14)∧(k13≤PQ.ay p∧PQ.ay p≤k14)∧(k13≤PQ.ad p∧PQ.ad p≤k14)∧(k13≤PQ.cx p∧PQ.cx p≤k14)∧(k13≤PQ.cy p∧PQ.cy p≤k14)∧k13≤PQ.cd p∧PQ.cd p≤k14)∧((AVle (AV.s false [Cell.row 16 (List.length (List.take 14 (pqL k27 (pqE l)))) fun (a:Nat)=>(sqC (List.getD (sqsOf (List.take 14 (pqL k27 fun (a:Nat)=>pqE l a))) a sq0) 4)]) k9∧True)∧True)∧(∀ (i:Nat),i<List.length k30→(List.all (sqC (List.getD k30 i sq0) 88) fun (a:Cell)=>Cell.flat a)=true)∧(∀ (i:Nat),i<List.length k2→CsLe (sqC (List.getD k2 i sq0) 4) (sqC (List.getD k15 i sq0) 4))∧4≤1500∧((SmA k17∧SmA (AV.s false [Cell.v (errV k6)])∧True)∧ABle (ABlk.row 43 16 (List.length k30) fun (a:Nat)=>(sqC (List.getD k30 a sq0) 88)) k4∧True)∧((!true)=true→(!true)=true∧AVle k22 k12)∧((!true)=false→(!true)=false∧(k21=true→AVle k22 k12)∧(k21=false→(101:Int)≠k19∧I64s k20∧I64s k32∧k32≠k19∧(True∧ABle (ABlk.st 39 (qsC [(Rat.divInt k20 k32,4)])) k8∧True)∧(Exists fun (i:Nat)=>i≤List.length k2∧(SmA k9∧AVle k25 (k10 i)∧SmA k17∧SmA k5∧SmA k7∧True)∧SmB k4∧SmB k8∧True)∧∀ (i:Nat),i≤List.length k2→(decide ((k28 i)<k24)=true→((k3 i)=true→(k19≤(k28 i)∧(k28 i)<k24)∧(k19≤(k28 i)∧(k28 i)<k24)∧SmC (ptC (Prod.fst (k16 i)) 4)∧SmC (ptC (Prod.snd (k16 i)) 4)∧(4≤50000∧4≤50000∧4≤50000∧4≤50000)∧(k3 i)=true∧(k19≤(k28 i)∧(k28 i)<k24)∧SmC (sqC (k16 i) 4)∧(4=4∧4=4∧4=4)∧CsLe (qsC [k26]) k29∧4≤10000∧4≤10000∧SmC (ptC (k1 i) 18)∧(∀ (i:Nat),i<List.length (ofP k2)→CsLe (sqC (List.getD (ofP k2) i sq0) 88) (sqC (List.getD k23 i sq0) 88))∧(88≤10000∧18≤10000)∧18=18∧List.length (ofP k2)≤1000000000000∧((k33 i)=true→AVle k22 k12)∧((k33 i)=false→Exists fun (i':Nat)=>i'≤List.length k2∧List.length k2-i'<List.length k2-i∧(SmA k9∧AVle (k11 i) (k10 i')∧SmA k17∧SmA k5∧SmA k7∧True)∧SmB k4∧SmB k8∧True))∧((k3 i)=false→(k19≤(k28 i)∧(k28 i)<k24)∧(k19≤(k28 i)∧(k28 i)<k24)∧SmC (ptC (Prod.fst (k16 i)) 4)∧SmC (ptC (Prod.snd (k16 i)) 4)∧(4≤50000∧4≤50000∧4≤50000∧4≤50000)∧(k3 i)=false∧Exists fun (i':Nat)=>i'≤List.length k2∧List.length k2-i'<List.length k2-i∧(SmA k9∧AVle (k11 i) (k10 i')∧SmA k17∧SmA k5∧SmA k7∧True)∧SmB k4∧SmB k8∧True))∧(decide ((k28 i)<k24)=false→(Exists fun (i:Nat)=>i≤List.length (ofP k2)∧(SmA k9∧AVle k25 (k10 i)∧SmA k17∧SmA k5∧SmA k7∧True)∧SmB k4∧SmB k8∧True)∧∀ (i:Nat),i≤List.length (ofP k2)→(decide ((k28 i)<k31)=true→(k19≤(k28 i)∧(k28 i)<k31)∧Int.toNat (k28 i)<List.length (ofP k2)∧SmC (sqC (List.getD (ofP k2) (Int.toNat (k28 i)) sq0) 88)∧(88=88∧88=88∧88=88)∧CsLe (qsC [k26]) k29∧88≤10000∧4≤10000∧SmC (ptC (k0 i) 270)∧(∀ (i:Nat),i<List.length k2→CsLe (sqC (List.getD k2 i sq0) 4) (sqC (List.getD k15 i sq0) 4))∧(4≤10000∧270≤10000)∧270=270∧List.length k2≤1000000000000∧((k34 i)=true→AVle k22 k12)∧((k34 i)=false→Exists fun (i':Nat)=>i'≤List.length (ofP k2)∧List.length (ofP k2)-i'<List.length (ofP k2)-i∧(SmA k9∧AVle (k11 i) (k10 i')∧SmA k17∧SmA k5∧SmA k7∧True)∧SmB k4∧SmB k8∧True))∧(decide ((k28 i)<k31)=false→AVle (AV.s false [Cell.t]) k12))))):=by kernel_rfl
theorem partK_in (part:Int):0≤partK14 part∧partK14 part≤1:=by
 have e:∃ n:Nat,n≤100∧IntKind.i64.wrap (Int.tmod (IntKind.u64.wrap part) 101)=(n:Int):=by
  have e:IntKind.u64.wrap part=part%18446744073709551616:=by simp[IntKind.wrap,IntKind.bits,IntKind.signed]
  refine⟨(part%18446744073709551616%101).toNat,by omega,?_⟩
  rw[e,Int.tmod_eq_emod_of_nonneg (by omega),IntKind.wrap_i64]
  omega
 obtain⟨n,hn,e⟩:=e
 unfold partK14
 rw[e]
 have hq:Rat.divInt (n:Int) 100*100=(n:Rat):=by
  rw[Rat.divInt_eq_div]
  exact Rat.div_mul_cancel (by decide +kernel)
 have h1:(0:Rat)≤(n:Rat):=by exact_mod_cast Nat.zero_le n
 have h2:(n:Rat)≤100:=by exact_mod_cast hn
 generalize Rat.divInt (n:Int) 100=q at *
 exact⟨nn_of_mul (a:=100) (by decide +kernel) (by grind),le1_of_mul (a:=100) (by decide +kernel) (by grind)⟩
set_option maxRecDepth 100000 in
theorem sc_true (l:List PQ) (part:Int) (hl:∀ p∈l,p.ok):vc Tryz.prog (lk gSc) Tryz.f5.ntmps (scI l part) (Tryz.f5.body.getD .skip) ⟨entryS [.s false [.row 6 l.length (pqE l)],.s false [.v (.int .i64 part)]] 0,[]⟩ (retVC Tryz.prog Tryz.f5.results.toList (.s false [.v (.bool true)])):=by
 rw[sc_vc]
 have hL:(sqsOf (l.take 14)).length≤14:=by unfold sqsOf;rw[List.length_map,List.length_take];omega
 have hl':∀ p,List.Mem p l→p.ok:=hl
 have hlen:(l.take 14).length=(sqsOf (l.take 14)).length:=by unfold sqsOf;rw[List.length_map]
 simp only[pqL_E,sgsL_E,SmA,SmB,SmC,cs_refl,av_refl,ab_refl,true_and,and_true,implies_true,decide_eq_true_eq,decide_eq_false_iff_not,Int.toNat_natCast]
 generalize sqsOf (l.take 14)=L at hL hlen ⊢
 have h20:L.length≤20000:=by omega
 have hP:=of_few hL
 have hk:=partK_in part
 have cmp:∀ p q:Pq,((cmpP2 p.1 p.2 q.1 q.2 != 0)=true→p≠q):=fun p q h e=>by
  have:=(cmpPq_eq p q).2 e
  unfold cmpPq at this
  rw[this] at h
  simp at h
 have way_on:∀ s:Sq,OnQ s (wayQ s (partK14 part)):=fun s=>⟨by unfold wayQ;dsimp only;grind,betw_at hk.1 hk.2,betw_at hk.1 hk.2⟩
 have c1:((if 20000<L.length then (2:Int) else 0) != 0)=false:=by rw[if_neg (by omega)];rfl
 refine⟨hl',AVle.one (CLe.rowC hlen (fun _ _=>CsLe.refl _) fun _ _=>sqC_cl _ _),fun _ _=>rfl,by omega,ABle.refl _,fun h=>absurd h (by decide),fun h=>⟨h,fun h=>absurd (h.symm.trans c1) (by decide),fun _=>⟨by decide,?_,?_,by decide,ABle.refl _,⟨0,Nat.zero_le _,AVle.ik rfl⟩,fun k hk'=>⟨fun h1=>⟨fun h2=> ?_,fun h2=>⟨by omega,by omega,by omega,h2,k+1,by omega,by omega,AVle.ik (by rw[IntKind.wrap_i64];omega)⟩⟩,fun h1=>⟨⟨0,Nat.zero_le _,AVle.ik rfl⟩,fun j hj=>⟨fun h2=> ?_,fun h2=>AVle.tt rfl⟩⟩⟩⟩⟩⟩
 ·unfold I64s
  rw[IntKind.wrap_i64]
  omega
 ·unfold I64s;omega
 ·have hk2:k<L.length:=by omega
  have hon:anyOn (ofP L) (wayQ (L.getD k sq0) (partK14 part))=true:=(anyOn_iff _ _).2 (by
   obtain⟨t,h3,h4⟩:=pc_covers h20 (getD_mem hk2) (cmp _ _ h2) (way_on (L.getD k sq0))
   exact⟨t,h3,h4⟩)
  unfold wayQ at hon
  exact⟨by omega,by omega,by omega,h2,by omega,by omega,by omega,by omega,by omega,(fun h=>by rw[hon] at h;cases h),fun _=>⟨k+1,by omega,by omega,AVle.ik (by rw[IntKind.wrap_i64];omega)⟩⟩
 ·have hj2:j<(ofP L).length:=by omega
  have hon:anyOn L (wayQ ((ofP L).getD j sq0) (partK14 part))=true:=(anyOn_iff _ _).2 (by
   obtain⟨s,h3,h4⟩:=pc_back h20 (getD_mem hj2) (way_on ((ofP L).getD j sq0))
   exact⟨s,h3,h4⟩)
  unfold wayQ at hon
  exact⟨by omega,hj2,by omega,by omega,by omega,by omega,(fun h=>by rw[hon] at h;cases h),fun _=>⟨j+1,by omega,by omega,AVle.ik (by rw[IntKind.wrap_i64];omega)⟩⟩
def scS:Spec
 |[.o (.s false [.row 6 n e]),.i _part]=>some (.s false [.v (.bool true)],[∀ i,i<n→CsLe (e i) (pqE (pqL n e) i),∀ p∈pqL n e,p.ok])
 |_=>none
set_option maxRecDepth 100000 in
theorem sc_ok (B:Nat):RunOK Tryz.prog False B 5 (runC scS):=by
 refine fn_specR (c:=Tryz.f5.body.getD .skip) (ctx_ok gSc_ok) (by kernel_rfl) Tryz.func5 (by kernel_rfl) (by kernel_rfl) ?_ B
 intro pvs av ps h hp
 unfold scS at h
 split at h
 ·rename_i n e part
  cases h
  obtain⟨h1,h2,_⟩:=hp
  exact⟨[.s false [.row 6 (pqL n e).length (pqE (pqL n e))],.s false [.v (.int .i64 part)]],scI (pqL n e) part,AvsLe.cons (AVle.one (CLe.rowC (pqL_len n e).symm h1 fun _ _=>rfl)) (AvsLe.cons (AVle.refl _) AvsLe.nil),by rw[Tryz.ntmps5];simp,sc_true _ _ h2⟩
 ·cases h
end Go.Proofs.YtcmplpkmfbhpdaaGreat
namespace Go.Proofs.YtcmplpkmfbhpdaaGreat
open Go Go.ChangeShapes Go.WideShapes Go.ChangeAt Go.RowKit
set_option maxRecDepth 100000 in
theorem splitCovers_lifted (os:Os) (started:os.Started) (H:Type) (enc:TypeId × Value→H) :
  ReturnsInHanded {} Tryz.checked os 5 .any (Rows.splitCoversSpec.pre6 enc Tryz.prog Tryz.f5 Rows.splitCoversRow.domain false) (Rows.splitCoversSpec.post enc Tryz.prog Tryz.f5 false true false false):=by
 refine returnsInHanded_of_change (C:=Tryz.checked) Tryz.own started (by kernel_rfl) Tryz.func5
  (ChangeSpec.witness6 (enc:=enc) (C:=Tryz.checked) false ⟨#[],#[.slice none 0 0,.int .i64 0],[]⟩ 8 (by kernel_rfl) (by kernel_rfl) (by kernel_rfl) (by kernel_rfl)) ?_
 intro W base args ds gs before hval0 hW hcnd _
 have hval:∀ (j:Nat) t v,Tryz.f5.params[j]? =some t→args[j]? =some v→Value.okWide Tryz.prog W .any base t v:=hval0
 have hW':=hW
 obtain⟨p,q,hA0,hV,rfl,hfz,hnd⟩:=hW
 have hA:DataW.TrodAll enc Tryz.prog W 0 (fun _=>true) true Tryz.f5.params.toList args.toList ds p:=hA0
 rw[Tryz.params5] at hA hval
 obtain⟨v0,v1,d0,d1,p0,p1,rfl,rfl,rfl,h0,h1⟩:=trodAll_two hA
 obtain⟨rfl,rfl⟩:=trodVars_none hV
 obtain⟨l,hP,hc⟩:=open_pqs (hval 0 29 v0 rfl rfl) h0
 obtain⟨a,rfl,rfl,rfl,-⟩:=open_int Tryz.underlying3 (hval 1 3 v1 rfl rfl) h1
 clear hA0 hval0
 have hrun:runC scS (fun _=>none) [.s false [.row 6 l.length (pqE l)],.s false [.v (.int .i64 a)]] 0=some { val:=some (.s false [.v (.bool true)]),ps:=[∀ i,i<l.length→CsLe (pqE l i) (pqE (pqL l.length (pqE l)) i),∀ p∈pqL l.length (pqE l),p.ok] } :=rfl
 refine (call_of (sc_ok 0) (w:=W) (vs:=[v0,.int .i64 a]) (F:=fun g=>g<W.heap.size) (G:=fun _=>⟨undef,fun _=>False⟩) hrun ⟨fun _ _=>by rw[pqL_E];exact CsLe.refl _,by rw[pqL_E];exact hP.2.1,trivial⟩ rfl (fun _ h=>h) ⟨rfl,fun i av v h1 h2=> ?_⟩).mono fun e W' ⟨he,hb⟩=> ?_
 ·match i,h1,h2 with
  |0,h1,h2=>cases h1;cases h2;exact pq_arg hc
  |1,h1,h2=>cases h1;cases h2;exact one_ok (GOk.of (.v _ rfl))
 ·subst he
  exact⟨_,rfl,post_true hW' hb rfl rfl rfl (by kernel_rfl)⟩
theorem splitCovers_holds:Rows.SplitCoversSaid:=
 OpenClaim.holds_of_wide 5 Tryz.f5 rfl rfl rfl rfl rfl rfl rfl ⟨rfl,rfl,rfl,rfl,rfl⟩ rfl rfl rfl rfl rfl (by kernel_rfl) Tryz.func5 (by kernel_rfl)
  (of_decide_eq_true (by kernel_rfl)) (by unfold Func.isWrapper;first | (rw[if_pos (by decide +kernel)];kernel_rfl) | (rw[if_neg (by decide +kernel)];exact⟨rfl,rfl⟩))
  (fun os started H enc _=>splitCovers_lifted os started H enc)
#print axioms splitCovers_holds
end Go.Proofs.YtcmplpkmfbhpdaaGreat
