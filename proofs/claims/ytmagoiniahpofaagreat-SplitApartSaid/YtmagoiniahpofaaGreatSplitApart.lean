/-
  SplitApart returns true for every input; each argument reads behind the call as it read before. No condition.
-/
import Derived.Test.YtmagoiniahpofaaGreatRows
import Derived.Test.YtmagoiniahpofaaGreatSpL
import Derived.Test.YtmagoiniahpofaaGreatRnZ
import Derived.Test.YtmagoiniahpofaaGreatSpU
import Derived.WalkKit
import Derived.ProofKit
namespace Go.Proofs.YtmagoiniahpofaaGreat
open Go Go.ChangeShapes Go.WideShapes Go.ChangeAt Go.RowKit
theorem Tryz.own:ownKnob Tryz.prog.godebug=none:=by kernel_rfl
theorem Tryz.laidOutAll:laidOutB Tryz.prog=true:=by kernel_rfl
theorem trodAll_below {P:Program} (hL:laidOutB P=true) {H:Type} {enc:TypeId × Value→H} {W W':World} (hb:Below W.heap.size W W'):∀ {ts:List TypeId} {vs:List Value} {ds:List (DataW H)} {ps:List MemPlace},
  (ts.all fun t=>P.readableRec t && decide (t<P.types.size))=true→DataW.TrodAll enc P W 0 (fun _=>true) true ts vs ds ps→(∀ x∈ps,x.block<W.heap.size)→
  DataW.TrodAll enc P W' 0 (fun b=>decide (b<W.heap.size)) true ts vs ds ps:=by
 intro ts
 induction ts with
 |nil=>
  intro vs ds ps _ h _
  cases vs<;>cases ds<;>simp_all [DataW.TrodAll]
 |cons t ts ih=>
  intro vs ds ps hr h hlt
  obtain⟨v,vs',d,ds',p,q,rfl,rfl,rfl,h1,h2⟩:=trodAll_cons h
  simp only[List.all_cons,Bool.and_eq_true,decide_eq_true_eq] at hr
  exact⟨p,q,Below.trod hL hr.1.1 hr.1.2 h1 hb (fun x hx=>hlt x (List.mem_append.2 (.inl hx))),
   ih (by simpa using hr.2) h2 (fun x hx=>hlt x (List.mem_append.2 (.inr hx))),rfl⟩
theorem post_true {H:Type} {enc:TypeId × Value→H} {f:Func} {s:ChangeSpec} {W W':World} {args:Array Value} {ds:List (DataW H)} {before:List MemPlace}
  (hW:DataW.Whole enc Tryz.prog f.params.toList s.vars false W args.toList ds [] before) (hb:Below W.heap.size W W') (hvars:s.vars=[])
  (hspec:s.fn H (ds++[])= { results:=[.lit (.bool true)],args:=ds }) (hres:f.resultTypes= #[4])
  (hread:(f.params.toList.all fun t=>Tryz.prog.readableRec t && decide (t<Tryz.prog.types.size))=true) :
  s.post enc Tryz.prog f false true false false W args (.bool true) W':=by
 have hlt:=hW.lt
 have hW':=hW
 obtain⟨p,q,hA,hV,rfl,hfz,hnd⟩:=hW
 rw[hvars] at hV
 have hq:q=[]:=hV
 subst hq
 refine⟨ds,[],_,[],p,[],hW',?_,?_,?_,hb.frame _,fun h=>by cases h⟩
 ·rw[hspec,hres]
  exact trodAll_mk1 (shut_bool Tryz.underlying4 true)
 ·rw[hspec]
  exact trodAll_below Tryz.laidOutAll hb hread hA (fun x hx=>hlt x (by simpa using hx))
 ·rw[hspec,hvars]
  rfl
end Go.Proofs.YtmagoiniahpofaaGreat
namespace Go.Proofs.YtmagoiniahpofaaGreat
open Go Go.RowKit
theorem call_of {P:Program} {D:Prop} {f:FuncId} {run:Run} (h:RunOK P D 0 f run) {avs:List AV} {b:Bool} {e:Eff} {w:World} {vs:List Value} (hr:run (fun _=>none) avs 0=some e) (hp:allP e.ps) (hv:e.val=some (.s false [.v (.bool b)]))
  {F:Nat→Prop} {G:Nat→GV} (hF:∀ g,F g→g<w.heap.size) (hvs:AvsOk (GOk G F w) avs vs):Calls P f vs.toArray w fun en w'=>en= .returned (.bool b)∧Below w.heap.size w w':=by
 refine (h.2 (fun _=>none) avs 0 e hr hp G F w vs ⟨Nat.zero_le _,hF,fun k b h=>(by cases h),fun k k' h=>absurd rfl h,fun k g h=>absurd rfl h,fun t av h=>(by cases h)⟩ hvs).mono ?_
 rintro en w' ⟨v,rfl,G',F',p⟩
 have h1:=p.v _ hv
 have h2:=(v_inv (one_inv h1)).1
 subst h2
 exact⟨rfl,p.os,p.tape,p.out,p.sz,fun g hg=>p.h g hg fun k _ hk=>absurd rfl hk⟩
end Go.Proofs.YtmagoiniahpofaaGreat
namespace Go.Proofs.YtmagoiniahpofaaGreat
open Go Go.RowKit
noncomputable def gSz:List (Nat × Run):=[(4,runC segsS),(5,readO ofC),(6,runC kn14S),(7,runC pcmpS),(8,runC meetS)]
theorem gSz_ok:∀ p∈gSz,∀ B,RunOK Tryz.prog False B p.1 p.2:=ctx_cons segs_ok (ctx_cons (readO_ok ofC_ok) (ctx_cons kn14_ok (ctx_cons (pcmp_ok False) (ctx_cons meet_ok fun p hp=>by cases hp))))
noncomputable def spq1_inv (L:List Sq):LInv:=⟨Nat,fun k=>k≤(ofP L).length,fun k=>⟨[(5,.s false [.hd 17]),(7,.s false [.v (.int .i64 (k:Nat))])],[(17,.row 41 16 (ofP L).length (sgE (ofP L) 88))]⟩,fun k=>(ofP L).length-k,[],[],none⟩
noncomputable def spq2_inv (L:List Sq):LInv:=⟨Nat × Nat,fun p=>p.1<(ofP L).length∧p.2≤p.1,fun p=>⟨[(5,.s false [.hd 17]),(7,.s false [.v (.int .i64 (p.1:Nat))]),(8,.s false [.v (.int .i64 (p.2:Nat))])],[(17,.row 41 16 (ofP L).length (sgE (ofP L) 88))]⟩,fun p=>p.1-p.2,[],[],some fun p=>p.1⟩
noncomputable def spqJ (L:List Sq):List (Nat × LInv):=[(6,spq1_inv L),(11,spq2_inv L),(1000001,pre [] [.say [(3,.s false [.row 16 L.length (sgE L 4)])] []]),(1000002,pre [] [.say [(5,.s false [.hd 17]),(6,.s false [.v (errV L.length)])] [(17,.row 41 16 (ofP L).length (sgE (ofP L) 88))]])]
noncomputable def spqI (l:List PQ):List (Nat × LInv):=spqJ (sqsOf (l.take 14))
theorem spq_vc (l:List PQ):vc Tryz.prog (lk gSz) Tryz.f3.ntmps (spqI l) (Tryz.f3.body.getD .skip) ⟨entryS [.s false [.row 6 l.length (pqE l)]] 0,[]⟩ (retVC Tryz.prog Tryz.f3.results.toList (.s false [.v (.bool true)]))=(let k8:=fun (zz:Nat × Nat)=>(↑(Prod.fst zz):Int);let k9:=(0:Int);let k14:=sqsOf (List.take 14 l);let k15:=fun (zz:Nat × Nat)=>(↑(Prod.snd zz):Int);let k18:=AV.s false [Cell.v (Value.bool true)];let k19:=fun (zz:Nat × Nat)=>(AV.s false [Cell.v (Value.int IntKind.i64 (k8 zz))]);let k20:=AV.s false [Cell.hd 17];let k21:=sgsL (List.length k14) (sgE k14 4);let k22:=(-9223372036854775808:Int);let k23:=(9223372036854775807:Int);let k24:=AV.s false [Cell.f];let k27:=(1:Int);let k28:=(if 20000<List.length k14 then (2:Int) else k9) != k9;let k30:=AV.s false [Cell.v (Value.int IntKind.i64 k9)];let k31:=List.length l;let k35:=fun (zz:Nat)=>(AV.s false [Cell.v (Value.int IntKind.i64 (↑zz:Int))]);let k36:=ofP k21;let k1:=ofP k14;let k3:=fun (zz:Nat × Nat)=>(List.getD k1 (Int.toNat (k8 zz)) sq0);let k7:=fun (zz:Nat × Nat)=>(List.getD k1 (Int.toNat (k15 zz)) sq0);let k10:=ABlk.row 41 16 (List.length k1) (sgE k1 88);let k11:=(↑(List.length k1):Int);let k13:=fun (zz:Nat × Nat)=>(AV.s false [Cell.v (Value.int IntKind.i64 (IntKind.wrap IntKind.i64 ((k15 zz)+k27)))]);let k17:=fun (zz:Nat)=>(List.getD k1 (Int.toNat (↑zz:Int)) sq0);let k26:=fun (zz:Nat)=>(cmpP2 (Prod.fst (Prod.fst (k17 zz))) (Prod.snd (Prod.fst (k17 zz))) (Prod.fst (Prod.snd (k17 zz))) (Prod.snd (Prod.snd (k17 zz)))≥k9);let k29:=fun (zz:Nat × Nat)=>(ptC (Prod.fst (k3 zz)) 88);let k32:=fun (zz:Nat × Nat)=>(ptC (Prod.fst (k7 zz)) 88);let k0:=fun (zz:Nat × Nat)=>(meetP (Prod.fst (Prod.fst (k3 zz))) (Prod.snd (Prod.fst (k3 zz))) (Prod.fst (Prod.snd (k3 zz))) (Prod.snd (Prod.snd (k3 zz))) (Prod.fst (Prod.fst (k7 zz))) (Prod.snd (Prod.fst (k7 zz))) (Prod.fst (Prod.snd (k7 zz))) (Prod.snd (Prod.snd (k7 zz))));let k2:=fun (zz:Nat × Nat)=>(List.getD (k0 zz) 0 ((0:Rat),(0:Rat)));let k4:=fun (zz:Nat × Nat)=>(cmpP2 (Prod.fst (k2 zz)) (Prod.snd (k2 zz)) (Prod.fst (Prod.fst (k7 zz))) (Prod.snd (Prod.fst (k7 zz))) != k9);let k5:=fun (zz:Nat × Nat)=>(↑(List.length (k0 zz)):Int);let k6:=fun (zz:Nat × Nat)=>(cmpP2 (Prod.fst (k2 zz)) (Prod.snd (k2 zz)) (Prod.fst (Prod.fst (k3 zz))) (Prod.snd (Prod.fst (k3 zz))) != k9);let k12:=fun (zz:Nat × Nat)=>(cmpP2 (Prod.fst (k2 zz)) (Prod.snd (k2 zz)) (Prod.fst (Prod.snd (k3 zz))) (Prod.snd (Prod.snd (k3 zz))) != k9);let k16:=fun (zz:Nat × Nat)=>(cmpP2 (Prod.fst (k2 zz)) (Prod.snd (k2 zz)) (Prod.fst (Prod.snd (k7 zz))) (Prod.snd (Prod.snd (k7 zz))) != k9);let k25:=fun (zz:Nat × Nat)=>(ptC (k2 zz) 1684);let k33:=fun (zz:Nat × Nat)=>((k5 zz)>k27);let k34:=fun (zz:Nat × Nat)=>((k5 zz) == k27);(∀ (i:Nat),i<List.length l→CsLe (pqE l i) (pqE (pqL k31 fun (a:Nat)=>pqE l a) i))∧(∀ (p:PQ),List.Mem p (pqL k31 fun (a:Nat)=>pqE l a)→(k22≤PQ.ax p∧PQ.ax p≤k23)∧(k22≤PQ.ay p∧PQ.ay p≤k23)∧(k22≤PQ.ad p∧PQ.ad p≤k23)∧(k22≤PQ.cx p∧PQ.cx p≤k23)∧(k22≤PQ.cy p∧PQ.cy p≤k23)∧k22≤PQ.cd p∧PQ.cd p≤k23)∧((AVle (AV.s false [Cell.row 16 (List.length (List.take 14 (pqL k31 fun (a:Nat)=>pqE l a))) fun (a:Nat)=>(sqC (List.getD (sqsOf (List.take 14 (pqL k31 fun (a:Nat)=>pqE l a))) a sq0) 4)]) (AV.s false [Cell.row 16 (List.length k14) (sgE k14 4)])∧True)∧True)∧(∀ (i:Nat),i<List.length k36→(List.all (sqC (List.getD k36 i sq0) 88) fun (a:Cell)=>Cell.flat a)=true)∧(∀ (i:Nat),i<List.length k14→CsLe (sqC (List.getD k14 i sq0) 4) (sqC (List.getD k21 i sq0) 4))∧4≤1500∧((SmA k20∧SmA (AV.s false [Cell.v (errV (List.length k14))])∧True)∧ABle (ABlk.row 41 16 (List.length k36) fun (a:Nat)=>(sqC (List.getD k36 a sq0) 88)) k10∧True)∧((!true)=true→(!true)=true∧AVle k24 k18)∧((!true)=false→(!true)=false∧(k28=true→AVle k24 k18)∧(k28=false→(Exists fun (i:Nat)=>i≤List.length k1∧(SmA k20∧AVle k30 (k35 i)∧True)∧SmB k10∧True)∧∀ (i:Nat),i≤List.length k1→(decide ((↑i:Int)<k11)=true→(k9≤(↑i:Int)∧(↑i:Int)<k11)∧Int.toNat (↑i:Int)<List.length k1∧(k9≤(↑i:Int)∧(↑i:Int)<k11)∧Int.toNat (↑i:Int)<List.length k1∧SmC (ptC (Prod.fst (k17 i)) 88)∧SmC (ptC (Prod.snd (k17 i)) 88)∧(88≤50000∧88≤50000∧88≤50000∧88≤50000)∧(decide (k26 i)=true→AVle k24 k18)∧(decide (k26 i)=false→Exists fun (i0:Nat × Nat)=>(Prod.fst i0<List.length k1∧Prod.snd i0≤Prod.fst i0)∧((SmA k20∧AVle (k35 i) (k19 i0)∧AVle k30 (AV.s false [Cell.v (Value.int IntKind.i64 (k15 i0))])∧True)∧SmB k10∧True)∧∀ (i_1:Nat × Nat),Prod.fst i_1<List.length k1∧Prod.snd i_1≤Prod.fst i_1→Prod.fst i_1=Prod.fst i0→(decide ((k15 i_1)<(k8 i_1))=true→(k9≤(k8 i_1)∧(k8 i_1)<k11)∧Int.toNat (k8 i_1)<List.length k1∧(k9≤(k15 i_1)∧(k15 i_1)<k11)∧Int.toNat (k15 i_1)<List.length k1∧SmC (sqC (k3 i_1) 88)∧SmC (sqC (k7 i_1) 88)∧88≤1500∧(decide (k33 i_1)=true→decide (k33 i_1)=true∧AVle k24 k18)∧(decide (k33 i_1)=false→((k34 i_1)=true→((k6 i_1)=true→((k12 i_1)=true→decide (k33 i_1)=false∧(k34 i_1)=true∧(k9≤k9∧k9<(k5 i_1))∧(k9≤(k8 i_1)∧(k8 i_1)<k11)∧Int.toNat (k8 i_1)<List.length k1∧SmC (k25 i_1)∧SmC (k29 i_1)∧(1684≤50000∧88≤50000∧1684≤50000∧88≤50000)∧(k6 i_1)=true∧(k9≤k9∧k9<(k5 i_1))∧(k9≤(k8 i_1)∧(k8 i_1)<k11)∧Int.toNat (k8 i_1)<List.length k1∧SmC (k25 i_1)∧SmC (ptC (Prod.snd (k3 i_1)) 88)∧(1684≤50000∧88≤50000∧1684≤50000∧88≤50000)∧(k12 i_1)=true∧AVle k24 k18)∧((k12 i_1)=false→((k4 i_1)=true→decide (k33 i_1)=false∧(k34 i_1)=true∧(k9≤k9∧k9<(k5 i_1))∧(k9≤(k8 i_1)∧(k8 i_1)<k11)∧Int.toNat (k8 i_1)<List.length k1∧SmC (k25 i_1)∧SmC (k29 i_1)∧(1684≤50000∧88≤50000∧1684≤50000∧88≤50000)∧(k6 i_1)=true∧(k9≤k9∧k9<(k5 i_1))∧(k9≤(k8 i_1)∧(k8 i_1)<k11)∧Int.toNat (k8 i_1)<List.length k1∧SmC (k25 i_1)∧SmC (ptC (Prod.snd (k3 i_1)) 88)∧(1684≤50000∧88≤50000∧1684≤50000∧88≤50000)∧(k12 i_1)=false∧(k9≤k9∧k9<(k5 i_1))∧(k9≤(k15 i_1)∧(k15 i_1)<k11)∧Int.toNat (k15 i_1)<List.length k1∧SmC (k25 i_1)∧SmC (k32 i_1)∧(1684≤50000∧88≤50000∧1684≤50000∧88≤50000)∧(k4 i_1)=true∧(k9≤k9∧k9<(k5 i_1))∧(k9≤(k15 i_1)∧(k15 i_1)<k11)∧Int.toNat (k15 i_1)<List.length k1∧SmC (k25 i_1)∧SmC (ptC (Prod.snd (k7 i_1)) 88)∧(1684≤50000∧88≤50000∧1684≤50000∧88≤50000)∧((k16 i_1)=true→AVle k24 k18)∧((k16 i_1)=false→Exists fun (i':Nat × Nat)=>(Prod.fst i'<List.length k1∧Prod.snd i'≤Prod.fst i')∧Prod.fst i'=Prod.fst i0∧Prod.fst i'-Prod.snd i'<Prod.fst i_1-Prod.snd i_1∧(SmA k20∧AVle (k19 i_1) (AV.s false [Cell.v (Value.int IntKind.i64 (↑(Prod.fst i'):Int))])∧AVle (k13 i_1) (AV.s false [Cell.v (Value.int IntKind.i64 (↑(Prod.snd i'):Int))])∧True)∧SmB k10∧True))∧((k4 i_1)=false→decide (k33 i_1)=false∧(k34 i_1)=true∧(k9≤k9∧k9<(k5 i_1))∧(k9≤(k8 i_1)∧(k8 i_1)<k11)∧Int.toNat (k8 i_1)<List.length k1∧SmC (k25 i_1)∧SmC (k29 i_1)∧(1684≤50000∧88≤50000∧1684≤50000∧88≤50000)∧(k6 i_1)=true∧(k9≤k9∧k9<(k5 i_1))∧(k9≤(k8 i_1)∧(k8 i_1)<k11)∧Int.toNat (k8 i_1)<List.length k1∧SmC (k25 i_1)∧SmC (ptC (Prod.snd (k3 i_1)) 88)∧(1684≤50000∧88≤50000∧1684≤50000∧88≤50000)∧(k12 i_1)=false∧(k9≤k9∧k9<(k5 i_1))∧(k9≤(k15 i_1)∧(k15 i_1)<k11)∧Int.toNat (k15 i_1)<List.length k1∧SmC (k25 i_1)∧SmC (k32 i_1)∧(1684≤50000∧88≤50000∧1684≤50000∧88≤50000)∧(k4 i_1)=false∧Exists fun (i':Nat × Nat)=>(Prod.fst i'<List.length k1∧Prod.snd i'≤Prod.fst i')∧Prod.fst i'=Prod.fst i0∧Prod.fst i'-Prod.snd i'<Prod.fst i_1-Prod.snd i_1∧(SmA k20∧AVle (k19 i_1) (AV.s false [Cell.v (Value.int IntKind.i64 (↑(Prod.fst i'):Int))])∧AVle (k13 i_1) (AV.s false [Cell.v (Value.int IntKind.i64 (↑(Prod.snd i'):Int))])∧True)∧SmB k10∧True)))∧((k6 i_1)=false→((k4 i_1)=true→decide (k33 i_1)=false∧(k34 i_1)=true∧(k9≤k9∧k9<(k5 i_1))∧(k9≤(k8 i_1)∧(k8 i_1)<k11)∧Int.toNat (k8 i_1)<List.length k1∧SmC (k25 i_1)∧SmC (k29 i_1)∧(1684≤50000∧88≤50000∧1684≤50000∧88≤50000)∧(k6 i_1)=false∧(k9≤k9∧k9<(k5 i_1))∧(k9≤(k15 i_1)∧(k15 i_1)<k11)∧Int.toNat (k15 i_1)<List.length k1∧SmC (k25 i_1)∧SmC (k32 i_1)∧(1684≤50000∧88≤50000∧1684≤50000∧88≤50000)∧(k4 i_1)=true∧(k9≤k9∧k9<(k5 i_1))∧(k9≤(k15 i_1)∧(k15 i_1)<k11)∧Int.toNat (k15 i_1)<List.length k1∧SmC (k25 i_1)∧SmC (ptC (Prod.snd (k7 i_1)) 88)∧(1684≤50000∧88≤50000∧1684≤50000∧88≤50000)∧((k16 i_1)=true→AVle k24 k18)∧((k16 i_1)=false→Exists fun (i':Nat × Nat)=>(Prod.fst i'<List.length k1∧Prod.snd i'≤Prod.fst i')∧Prod.fst i'=Prod.fst i0∧Prod.fst i'-Prod.snd i'<Prod.fst i_1-Prod.snd i_1∧(SmA k20∧AVle (k19 i_1) (AV.s false [Cell.v (Value.int IntKind.i64 (↑(Prod.fst i'):Int))])∧AVle (k13 i_1) (AV.s false [Cell.v (Value.int IntKind.i64 (↑(Prod.snd i'):Int))])∧True)∧SmB k10∧True))∧((k4 i_1)=false→decide (k33 i_1)=false∧(k34 i_1)=true∧(k9≤k9∧k9<(k5 i_1))∧(k9≤(k8 i_1)∧(k8 i_1)<k11)∧Int.toNat (k8 i_1)<List.length k1∧SmC (k25 i_1)∧SmC (k29 i_1)∧(1684≤50000∧88≤50000∧1684≤50000∧88≤50000)∧(k6 i_1)=false∧(k9≤k9∧k9<(k5 i_1))∧(k9≤(k15 i_1)∧(k15 i_1)<k11)∧Int.toNat (k15 i_1)<List.length k1∧SmC (k25 i_1)∧SmC (k32 i_1)∧(1684≤50000∧88≤50000∧1684≤50000∧88≤50000)∧(k4 i_1)=false∧Exists fun (i':Nat × Nat)=>(Prod.fst i'<List.length k1∧Prod.snd i'≤Prod.fst i')∧Prod.fst i'=Prod.fst i0∧Prod.fst i'-Prod.snd i'<Prod.fst i_1-Prod.snd i_1∧(SmA k20∧AVle (k19 i_1) (AV.s false [Cell.v (Value.int IntKind.i64 (↑(Prod.fst i'):Int))])∧AVle (k13 i_1) (AV.s false [Cell.v (Value.int IntKind.i64 (↑(Prod.snd i'):Int))])∧True)∧SmB k10∧True)))∧((k34 i_1)=false→decide (k33 i_1)=false∧(k34 i_1)=false∧Exists fun (i':Nat × Nat)=>(Prod.fst i'<List.length k1∧Prod.snd i'≤Prod.fst i')∧Prod.fst i'=Prod.fst i0∧Prod.fst i'-Prod.snd i'<Prod.fst i_1-Prod.snd i_1∧(SmA k20∧AVle (k19 i_1) (AV.s false [Cell.v (Value.int IntKind.i64 (↑(Prod.fst i'):Int))])∧AVle (k13 i_1) (AV.s false [Cell.v (Value.int IntKind.i64 (↑(Prod.snd i'):Int))])∧True)∧SmB k10∧True)))∧(decide ((k15 i_1)<(k8 i_1))=false→Exists fun (i':Nat)=>i'≤List.length k1∧List.length k1-i'<List.length k1-i∧(SmA k20∧AVle (AV.s false [Cell.v (Value.int IntKind.i64 (IntKind.wrap IntKind.i64 ((k8 i_1)+k27)))]) (AV.s false [Cell.v (Value.int IntKind.i64 (↑i':Int))])∧True)∧SmB k10∧True)))∧(decide ((↑i:Int)<k11)=false→AVle (AV.s false [Cell.t]) k18)))):=by kernel_rfl
theorem meet_few {l:List Sq} (hl:l.length≤20000) {t u:Sq} (ht:t∈ofP l) (hu:u∈ofP l) (hne:t≠u):(meetQ t u).length≤1:=by
 by_cases hC:crQ t u=0
 ·have e:meetQ t u=endM (endsM t.1.1 t.1.2 t.2.1 t.2.2 u.1.1 u.1.2 u.2.1 u.2.2):=by
   unfold meetQ meetP
   rw[if_neg (fun h=>h hC)]
  by_cases hn:endsM t.1.1 t.1.2 t.2.1 t.2.2 u.1.1 u.1.2 u.2.1 u.2.2=[]
  ·rw[e,hn]
   exact Nat.zero_le _
  ·obtain⟨a,b,h1,h2,h3,h4⟩:=endM_cases _ hn
   by_cases hab:a=b
   ·rw[e,h4,if_pos hab]
    exact Nat.le_refl _
   ·refine absurd ?_ hne
    have ha:a∈meetQ t u:=by rw[e,h4,if_neg hab];simp
    have hb:b∈meetQ t u:=by rw[e,h4,if_neg hab];simp
    obtain⟨a1,a2⟩:=pc_apart hl ht hu ha
    obtain⟨b1,b2⟩:=pc_apart hl ht hu hb
    have lt1:=pc_lt hl ht
    have lt2:=pc_lt hl hu
    have go:∀ s:Sq,(a=s.1∨a=s.2)→(b=s.1∨b=s.2)→ltPq s.1 s.2→(s=(a,b)∨s=(b,a))∧ltPq s.1 s.2:=fun s k1 k2 k=>by
     refine⟨?_,k⟩
     rcases k1 with k1 | k1<;>rcases k2 with k2 | k2
     ·exact absurd (k1.trans k2.symm) hab
     ·rw[k1,k2];exact .inl rfl
     ·rw[k1,k2];exact .inr rfl
     ·exact absurd (k1.trans k2.symm) hab
    obtain⟨t1,t2⟩:=go t a1 b1 lt1
    obtain⟨u1,u2⟩:=go u a2 b2 lt2
    rcases t1 with t1 | t1<;>rcases u1 with u1 | u1
    ·rw[t1,u1]
    ·rw[t1] at t2;rw[u1] at u2;exact absurd (ltPq_trans t2 u2) (ltPq_irrefl _)
    ·rw[t1] at t2;rw[u1] at u2;exact absurd (ltPq_trans t2 u2) (ltPq_irrefl _)
    ·rw[t1,u1]
 ·unfold meetQ meetP
  rw[if_pos (show crossM t.1.1 t.1.2 t.2.1 t.2.2 u.1.1 u.1.2 u.2.1 u.2.2≠0 from hC)]
  split
  ·exact Nat.zero_le _
  ·exact Nat.le_refl _
set_option maxRecDepth 100000 in
theorem spq_true (l:List PQ) (hl:∀ p∈l,p.ok):vc Tryz.prog (lk gSz) Tryz.f3.ntmps (spqI l) (Tryz.f3.body.getD .skip) ⟨entryS [.s false [.row 6 l.length (pqE l)]] 0,[]⟩ (retVC Tryz.prog Tryz.f3.results.toList (.s false [.v (.bool true)])):=by
 rw[spq_vc]
 have hL:(sqsOf (l.take 14)).length≤14:=by unfold sqsOf;rw[List.length_map,List.length_take];omega
 have hl':∀ p,List.Mem p l→p.ok:=hl
 have hlen:(l.take 14).length=(sqsOf (l.take 14)).length:=by unfold sqsOf;rw[List.length_map]
 simp only[pqL_E,sgsL_E,SmA,SmB,SmC,cs_refl,av_refl,ab_refl,true_and,and_true,implies_true,decide_eq_true_eq,decide_eq_false_iff_not,Int.toNat_natCast]
 generalize sqsOf (l.take 14)=L at hL hlen ⊢
 have h20:L.length≤20000:=by omega
 have hP:=of_few hL
 have cz:∀ p q:Pq,(cmpP2 p.1 p.2 q.1 q.2 != 0)=decide (p≠q):=fun p q=>by
  have:=cmpPq_eq p q
  unfold cmpPq at this
  by_cases e:p=q
  ·rw[this.2 e];simp[e]
  ·have h:cmpP2 p.1 p.2 q.1 q.2≠0:=fun z=>e (this.1 z)
   simp[h,e]
 have nm:∀ {i j:Nat},i<(ofP L).length→j<i→((ofP L).getD i sq0)≠((ofP L).getD j sq0):=fun {i j} hi hj e=>by
  have h:=List.pairwise_iff_getElem.1 (ofP_is L).1 j i (by omega) hi hj
  rw[getD_at hi,getD_at (by omega)] at e
  rw[e] at h
  exact ltSq_irrefl _ h
 have c1:((if 20000<L.length then (2:Int) else 0) != 0)=false:=by rw[if_neg (by omega)];rfl
 refine⟨hl',AVle.one (CLe.rowC hlen (fun _ _=>CsLe.refl _) fun _ _=>sqC_cl _ _),fun _ _=>rfl,by omega,ABle.refl _,fun h=>absurd h (by decide),fun h=>⟨h,fun h=>absurd (h.symm.trans c1) (by decide),fun _=>⟨⟨0,Nat.zero_le _,AVle.ik rfl⟩,fun k hk=>⟨fun h1=>⟨by omega,by omega,by omega,by omega,by omega,fun h2=> ?_,fun h2=>⟨(k,0),⟨by omega,Nat.zero_le _⟩,⟨AVle.refl _,AVle.ik rfl⟩,fun ⟨i,j⟩ hij e=> ?_⟩⟩,fun h1=> ?_⟩⟩⟩⟩
 ·have:=pc_lt h20 (getD_mem (d:=sq0) (show k<(ofP L).length by omega))
  have h3:=(cmpPq_lt _ _).2 this
  unfold cmpPq at h3
  omega
 ·dsimp only at hij e ⊢
  subst e
  have hi:i<(ofP L).length:=by omega
  refine⟨fun h3=> ?_,fun h3=> ?_⟩
  ·have hj:j<i:=by omega
   have t1:((ofP L).getD i sq0)∈ofP L:=getD_mem hi
   have t2:((ofP L).getD j sq0)∈ofP L:=getD_mem (by omega)
   have hf:=meet_few h20 t1 t2 (nm hi hj)
   have ha:=fun p hp=>pc_apart h20 t1 t2 (p:=p) hp
   unfold meetQ at hf ha
   clear t1 t2
   refine⟨by omega,hi,by omega,by omega,by decide,?_⟩
   generalize (ofP L).getD i sq0=a at *
   generalize (ofP L).getD j sq0=b at *
   generalize meetP a.1.1 a.1.2 a.2.1 a.2.2 b.1.1 b.1.2 b.2.1 b.2.2=m at *
   simp only[cz]
   have ex:∃ i':Nat × Nat,(i'.1<(ofP L).length∧i'.2≤i'.1)∧i'.1=i∧i'.1-i'.2<i-j∧(AVle (.s false [.v (.int .i64 (i:Int))]) (.s false [.v (.int .i64 (i'.1:Int))])∧AVle (.s false [.v (.int .i64 (IntKind.i64.wrap ((j:Int)+1)))]) (.s false [.v (.int .i64 (i'.2:Int))])):=⟨(i,j+1),⟨hi,by show j+1≤i;omega⟩,rfl,by show i-(j+1)<i-j;omega,AVle.refl _,AVle.ik (by rw[IntKind.wrap_i64];show _=((j+1:Nat):Int);omega)⟩
   match m,hf,ha with
   |[],_,_=>
    simp only[List.length_nil]
    (repeat' (first | exact ex | apply And.intro | intro _))<;>first | assumption | omega | exact absurd (by assumption:(((0:Nat):Int) == 1)=true) (by decide)
   |[p],_,ha=>
    obtain⟨e1,e2⟩:=ha p (List.mem_singleton.2 rfl)
    simp only[List.length_singleton,List.getD_cons_zero]
    have n1:¬ (decide (p≠a.1)=true∧decide (p≠a.2)=true):=by
     rintro⟨u,v⟩
     rw[decide_eq_true_eq] at u v
     exact e1.elim u v
    have n2:¬ (decide (p≠b.1)=true∧decide (p≠b.2)=true):=by
     rintro⟨u,v⟩
     rw[decide_eq_true_eq] at u v
     exact e2.elim u v
    (repeat' (first | exact ex | apply And.intro | intro _))<;>first | assumption | omega | exact (n1 ⟨by assumption,by assumption⟩).elim | exact (n2 ⟨by assumption,by assumption⟩).elim | exact absurd (by assumption:(((1:Nat):Int) == 1)=false) (by decide)
   |p::q::r,hf,_=>exact absurd hf (by simp)
  ·exact⟨i+1,by omega,by omega,AVle.ik (by rw[IntKind.wrap_i64];omega)⟩
 ·exact AVle.tt rfl
def spqS:Spec
 |[.o (.s false [.row 6 n e])]=>some (.s false [.v (.bool true)],[∀ i,i<n→CsLe (e i) (pqE (pqL n e) i),∀ p∈pqL n e,p.ok])
 |_=>none
set_option maxRecDepth 100000 in
theorem spq_ok (B:Nat):RunOK Tryz.prog False B 3 (runC spqS):=by
 refine fn_specR (c:=Tryz.f3.body.getD .skip) (ctx_ok gSz_ok) (by kernel_rfl) Tryz.func3 (by kernel_rfl) (by kernel_rfl) ?_ B
 intro pvs av ps h hp
 unfold spqS at h
 split at h
 ·rename_i n e
  cases h
  obtain⟨h1,h2,_⟩:=hp
  exact⟨[.s false [.row 6 (pqL n e).length (pqE (pqL n e))]],spqI (pqL n e),AvsLe.cons (AVle.one (CLe.rowC (pqL_len n e).symm h1 fun _ _=>rfl)) AvsLe.nil,by rw[Tryz.ntmps3];simp,spq_true _ h2⟩
 ·cases h
end Go.Proofs.YtmagoiniahpofaaGreat
namespace Go.Proofs.YtmagoiniahpofaaGreat
open Go Go.ChangeShapes Go.WideShapes Go.ChangeAt Go.RowKit
set_option maxRecDepth 100000 in
theorem splitApart_lifted (os:Os) (started:os.Started) (H:Type) (enc:TypeId × Value→H) :
  ReturnsInHanded {} Tryz.checked os 3 .any (Rows.splitApartSpec.pre6 enc Tryz.prog Tryz.f3 Rows.splitApartRow.domain false) (Rows.splitApartSpec.post enc Tryz.prog Tryz.f3 false true false false):=by
 refine returnsInHanded_of_change (C:=Tryz.checked) Tryz.own started (by kernel_rfl) Tryz.func3
  (ChangeSpec.witness6 (enc:=enc) (C:=Tryz.checked) false ⟨#[],#[.slice none 0 0],[]⟩ 8 (by kernel_rfl) (by kernel_rfl) (by kernel_rfl) (by kernel_rfl)) ?_
 intro W base args ds gs before hval0 hW hcnd _
 have hval:∀ (j:Nat) t v,Tryz.f3.params[j]? =some t→args[j]? =some v→Value.okWide Tryz.prog W .any base t v:=hval0
 have hW':=hW
 obtain⟨p,q,hA0,hV,rfl,hfz,hnd⟩:=hW
 have hA:DataW.TrodAll enc Tryz.prog W 0 (fun _=>true) true Tryz.f3.params.toList args.toList ds p:=hA0
 rw[Tryz.params3] at hA hval
 obtain⟨v0,d0,rfl,rfl,h0⟩:=trodAll_one hA
 obtain⟨rfl,rfl⟩:=trodVars_none hV
 obtain⟨l,hP,hc⟩:=open_pqs (hval 0 22 v0 rfl rfl) h0
 clear hA0 hval0
 have hrun:runC spqS (fun _=>none) [.s false [.row 6 l.length (pqE l)]] 0=some { val:=some (.s false [.v (.bool true)]),ps:=[∀ i,i<l.length→CsLe (pqE l i) (pqE (pqL l.length (pqE l)) i),∀ p∈pqL l.length (pqE l),p.ok] } :=rfl
 refine (call_of (spq_ok 0) (w:=W) (vs:=[v0]) (F:=fun g=>g<W.heap.size) (G:=fun _=>⟨undef,fun _=>False⟩) hrun ⟨fun _ _=>by rw[pqL_E];exact CsLe.refl _,by rw[pqL_E];exact hP.2.1,trivial⟩ rfl (fun _ h=>h) ⟨rfl,fun i av v h1 h2=> ?_⟩).mono fun e W' ⟨he,hb⟩=> ?_
 ·match i,h1,h2 with
  |0,h1,h2=>cases h1;cases h2;exact pq_arg hc
 ·subst he
  exact⟨_,rfl,post_true hW' hb rfl rfl rfl (by kernel_rfl)⟩
theorem splitApart_holds:Rows.SplitApartSaid:=
 OpenClaim.holds_of_wide 3 Tryz.f3 rfl rfl rfl rfl rfl rfl rfl ⟨rfl,rfl,rfl,rfl,rfl⟩ rfl rfl rfl rfl rfl (by kernel_rfl) Tryz.func3 (by kernel_rfl)
  (of_decide_eq_true (by kernel_rfl)) (by unfold Func.isWrapper;first | (rw[if_pos (by decide +kernel)];kernel_rfl) | (rw[if_neg (by decide +kernel)];exact⟨rfl,rfl⟩))
  (fun os started H enc _=>splitApart_lifted os started H enc)
#print axioms splitApart_holds
end Go.Proofs.YtmagoiniahpofaaGreat
