/-
  SplitAgain returns true for every input; each argument reads behind the call as it read before. No condition.
-/
import Derived.Test.YtcmplpkmfbhpdaaGreatRows
import Derived.Test.YtcmplpkmfbhpdaaGreatSpL
import Derived.Test.YtcmplpkmfbhpdaaGreatRnZ
import Derived.Test.YtcmplpkmfbhpdaaGreatSpU
import Derived.WalkKit
import Derived.ProofKit
namespace Go.Proofs.YtcmplpkmfbhpdaaGreat
open Go Go.ChangeShapes Go.WideShapes Go.ChangeAt Go.RowKit
theorem Tryz.own:ownKnob Tryz.prog.godebug=none:=by kernel_rfl
theorem Tryz.laidOutAll:laidOutB Tryz.prog=true:=by kernel_rfl
theorem trodAll_below {P:Program} (hL:laidOutB P=true) {H:Type} {enc:TypeId × Value→H} {W W':World} (hb:Below W.heap.size W W'):∀ {ts:List TypeId} {vs:List Value} {ds:List (DataW H)} {ps:List MemPlace},
  (ts.all fun t=>P.readableRec t && decide (t<P.types.size))=true→DataW.TrodAll enc P W 0 (fun _=>true) true ts vs ds ps→(∀ x∈ps,x.block<W.heap.size)→
  DataW.TrodAll enc P W' 0 (fun b=>decide (b<W.heap.size)) true ts vs ds ps:=by
 intro ts
 induction ts with
 |nil=>
  intro vs ds ps _ h _
  cases vs<;>cases ds<;>simp_all [DataW.TrodAll]
 |cons t ts ih=>
  intro vs ds ps hr h hlt
  obtain⟨v,vs',d,ds',p,q,rfl,rfl,rfl,h1,h2⟩:=trodAll_cons h
  simp only[List.all_cons,Bool.and_eq_true,decide_eq_true_eq] at hr
  exact⟨p,q,Below.trod hL hr.1.1 hr.1.2 h1 hb (fun x hx=>hlt x (List.mem_append.2 (.inl hx))),
   ih (by simpa using hr.2) h2 (fun x hx=>hlt x (List.mem_append.2 (.inr hx))),rfl⟩
theorem post_true {H:Type} {enc:TypeId × Value→H} {f:Func} {s:ChangeSpec} {W W':World} {args:Array Value} {ds:List (DataW H)} {before:List MemPlace}
  (hW:DataW.Whole enc Tryz.prog f.params.toList s.vars false W args.toList ds [] before) (hb:Below W.heap.size W W') (hvars:s.vars=[])
  (hspec:s.fn H (ds++[])= { results:=[.lit (.bool true)],args:=ds }) (hres:f.resultTypes= #[4])
  (hread:(f.params.toList.all fun t=>Tryz.prog.readableRec t && decide (t<Tryz.prog.types.size))=true) :
  s.post enc Tryz.prog f false true false false W args (.bool true) W':=by
 have hlt:=hW.lt
 have hW':=hW
 obtain⟨p,q,hA,hV,rfl,hfz,hnd⟩:=hW
 rw[hvars] at hV
 have hq:q=[]:=hV
 subst hq
 refine⟨ds,[],_,[],p,[],hW',?_,?_,?_,hb.frame _,fun h=>by cases h⟩
 ·rw[hspec,hres]
  exact trodAll_mk1 (shut_bool Tryz.underlying4 true)
 ·rw[hspec]
  exact trodAll_below Tryz.laidOutAll hb hread hA (fun x hx=>hlt x (by simpa using hx))
 ·rw[hspec,hvars]
  rfl
end Go.Proofs.YtcmplpkmfbhpdaaGreat
namespace Go.Proofs.YtcmplpkmfbhpdaaGreat
open Go Go.RowKit
theorem call_of {P:Program} {D:Prop} {f:FuncId} {run:Run} (h:RunOK P D 0 f run) {avs:List AV} {b:Bool} {e:Eff} {w:World} {vs:List Value} (hr:run (fun _=>none) avs 0=some e) (hp:allP e.ps) (hv:e.val=some (.s false [.v (.bool b)]))
  {F:Nat→Prop} {G:Nat→GV} (hF:∀ g,F g→g<w.heap.size) (hvs:AvsOk (GOk G F w) avs vs):Calls P f vs.toArray w fun en w'=>en= .returned (.bool b)∧Below w.heap.size w w':=by
 refine (h.2 (fun _=>none) avs 0 e hr hp G F w vs ⟨Nat.zero_le _,hF,fun k b h=>(by cases h),fun k k' h=>absurd rfl h,fun k g h=>absurd rfl h,fun t av h=>(by cases h)⟩ hvs).mono ?_
 rintro en w' ⟨v,rfl,G',F',p⟩
 have h1:=p.v _ hv
 have h2:=(v_inv (one_inv h1)).1
 subst h2
 exact⟨rfl,p.os,p.tape,p.out,p.sz,fun g hg=>p.h g hg fun k _ hk=>absurd rfl hk⟩
end Go.Proofs.YtcmplpkmfbhpdaaGreat
namespace Go.Proofs.YtcmplpkmfbhpdaaGreat
open Go Go.RowKit
noncomputable def gSa:List (Nat × Run):=[(13,runC segsS),(11,readO ofC),(12,runC kn14S),(14,readC (runC alkS))]
theorem gSa_ok:∀ p∈gSa,∀ B,RunOK Tryz.prog False B p.1 p.2:=ctx_cons segs_ok (ctx_cons (readO_ok ofC_ok) (ctx_cons kn14_ok (ctx_cons (readC_ok (alk_ok False)) fun p hp=>by cases hp)))
def turnS (L:List Sq) (turn:Int) (i:Nat):Sq:=
 let s:=L.getD (Int.tmod (IntKind.i64.wrap ((i:Int)+IntKind.i64.wrap (Int.tmod (IntKind.u64.wrap turn) 14))) (L.length:Int)).toNat sq0
 if ((Int.tmod (i:Int) 2) == bits .and .i64 turn 1)=true then (s.2,s.1) else s
def turnL (L:List Sq) (turn:Int):Nat→List Sq
 |0=>[]
 |i+1=>turnS L turn i::turnL L turn i
noncomputable def spr_inv (L:List Sq) (turn:Int):LInv:=⟨Nat,fun k=>k≤L.length,fun k=>⟨[(1,.s false [.v (.int .i64 turn)]),(5,.s false [.row 16 L.length (sgE L 4)]),(7,.s false [.hd 23]),(8,.s false [.v (errV L.length)]),(9,.s false [.hd 28]),(10,.s false [.v (errV (ofP L).length)]),(11,.s false [.hd 900]),(12,.s false [.v (.int .i64 (k:Nat))])],
 [(23,.row 43 16 (ofP L).length (sgE (ofP L) (mS 4))),(28,.row 43 16 (ofP (ofP L)).length (sgE (ofP (ofP L)) (mS (mS 4)))),(900,.row 43 16 (turnL L turn k).length (sgE (turnL L turn k) 4))]⟩,fun k=>L.length-k,[.nil 11 900 43 16],[.ren 62 900],none⟩
noncomputable def sprJ (L:List Sq) (turn:Int):List (Nat × LInv):=[(6,spr_inv L turn),(1000001,pre [] [.say [(5,.s false [.row 16 L.length (sgE L 4)])] []]),(1000002,pre [] [.say [(7,.s false [.hd 23]),(8,.s false [.v (errV L.length)])] [(23,.row 43 16 (ofP L).length (sgE (ofP L) (mS 4)))]]),(1000003,pre [] [.say [(9,.s false [.hd 28]),(10,.s false [.v (errV (ofP L).length)])] [(28,.row 43 16 (ofP (ofP L)).length (sgE (ofP (ofP L)) (mS (mS 4))))]])]
noncomputable def sprI (l:List PQ) (turn:Int):List (Nat × LInv):=sprJ (sqsOf (l.take 14)) turn
theorem sgsL_E2 {l:List Sq} {s:Nat} : sgsL l.length (fun a=>sqC (l.getD a sq0) s)=l:=sgsL_E
theorem turnL_len (L:List Sq) (turn:Int):∀ i,(turnL L turn i).length=i
 |0=>rfl
 |i+1=>by simp[turnL,turnL_len L turn i]
theorem turnL_mem {L:List Sq} {turn:Int} {s:Sq} : ∀ {i:Nat},s∈turnL L turn i↔∃ j,j<i∧s=turnS L turn j
 |0=>by simp[turnL]
 |i+1=>by
  simp only[turnL,List.mem_cons,turnL_mem (i:=i)]
  constructor
  ·rintro (h | ⟨j,h1,h2⟩)
   ·exact⟨i,by omega,h⟩
   ·exact⟨j,by omega,h2⟩
  ·rintro⟨j,h1,h2⟩
   by_cases e:j=i
   ·subst e;exact .inl h2
   ·exact .inr ⟨j,by omega,h2⟩
def ixT (n:Nat) (turn:Int) (i:Nat):Int:=Int.tmod (IntKind.i64.wrap ((i:Int)+IntKind.i64.wrap (Int.tmod (IntKind.u64.wrap turn) 14))) (n:Int)
theorem ixT_eq {n i:Nat} (turn:Int) (_hi:i<n) (hn:n≤14):∃ T:Nat,T<14∧∀ i,i<n→ixT n turn i=(((i+T)%n:Nat):Int):=by
 have e:IntKind.u64.wrap turn=turn%18446744073709551616:=by simp[IntKind.wrap,IntKind.bits,IntKind.signed]
 refine⟨(turn%18446744073709551616%14).toNat,by omega,fun i hi=> ?_⟩
 unfold ixT
 rw[e,Int.tmod_eq_emod_of_nonneg (a:=turn%18446744073709551616) (by omega)]
 have e2:IntKind.i64.wrap ((i:Int)+IntKind.i64.wrap (turn%18446744073709551616%14))=((i+(turn%18446744073709551616%14).toNat:Nat):Int):=by
  rw[IntKind.wrap_i64,IntKind.wrap_i64]
  omega
 rw[e2]
 exact tmodN _ _
theorem turn_ix {L:List Sq} {turn:Int} {k:Nat} (hk:k<L.length) (hL:L.length≤14):0≤ixT L.length turn k∧ixT L.length turn k<(L.length:Int):=by
 obtain⟨T,_,hT⟩:=ixT_eq turn hk hL
 rw[hT k hk]
 have:=Nat.mod_lt (k+T) (show 0<L.length by omega)
 omega
theorem turnS_eq (L:List Sq) (turn:Int) (i:Nat):turnS L turn i=(let s:=L.getD (ixT L.length turn i).toNat sq0;if ((Int.tmod (i:Int) 2) == bits .and .i64 turn 1)=true then (s.2,s.1) else s):=rfl
theorem turnL_turned {L:List Sq} {turn:Int} (hL:L.length≤14):Turned L (turnL L turn L.length):=by
 have or:∀ j,turnS L turn j=L.getD (ixT L.length turn j).toNat sq0∨turnS L turn j=((L.getD (ixT L.length turn j).toNat sq0).2,(L.getD (ixT L.length turn j).toNat sq0).1):=fun j=>by
  rw[turnS_eq]
  dsimp only
  split
  ·exact .inr rfl
  ·exact .inl rfl
 constructor
 ·intro s hs
  obtain⟨q,hq,rfl⟩:=List.mem_iff_getElem.1 hs
  obtain⟨T,hT14,hT⟩:=ixT_eq turn hq hL
  -- the turn at which it comes
  have hn:0<L.length:=by omega
  have hj:(q+(L.length-T%L.length))%L.length<L.length:=Nat.mod_lt _ hn
  have e:ixT L.length turn ((q+(L.length-T%L.length))%L.length)=(q:Int):=by
   rw[hT _ hj]
   have h1:=Nat.mod_lt T hn
   rw[Nat.mod_add_mod]
   have h2:q+(L.length-T%L.length)+T=q+L.length*(T/L.length+1):=by
    have:=Nat.div_add_mod T L.length
    rw[Nat.mul_add,Nat.mul_one]
    omega
   rw[h2,Nat.add_mul_mod_self_left,Nat.mod_eq_of_lt hq]
  have ho:=or ((q+(L.length-T%L.length))%L.length)
  rw[e,Int.toNat_natCast,getD_at hq] at ho
  rcases ho with ho | ho
  ·exact .inl (turnL_mem.2 ⟨_,hj,ho.symm⟩)
  ·exact .inr (turnL_mem.2 ⟨_,hj,ho.symm⟩)
 ·intro s hs
  obtain⟨j,hj,rfl⟩:=turnL_mem.1 hs
  have hi:=turn_ix (turn:=turn) hj hL
  have hm:L.getD (ixT L.length turn j).toNat sq0∈L:=getD_mem (by omega)
  rcases or j with h | h
  ·rw[h];exact .inl hm
  ·rw[h];exact .inr hm
theorem spr_vc (l:List PQ) (turn:Int):vc Tryz.prog (lk gSa) Tryz.f4.ntmps (sprI l turn) (Tryz.f4.body.getD .skip) ⟨entryS [.s false [.row 6 l.length (pqE l)],.s false [.v (.int .i64 turn)]] 0,[]⟩ (retVC Tryz.prog Tryz.f4.results.toList (.s false [.v (.bool true)]))=(let k0:=sqsOf (List.take 14 l);let k2:=sgsL (List.length (ofP k0)) (sgE (ofP k0) 88);let k7:=ofP (ofP k0);let k8:=List.length k0;let k9:=ABlk.row 43 16 (List.length (ofP k0)) (sgE (ofP k0) 88);let k10:=AV.s false [Cell.v (Value.bool true)];let k11:=ABlk.row 43 16 (List.length k7) (sgE k7 1684);let k12:=AV.s false [Cell.v (errV (List.length (ofP k0)))];let k14:=(-9223372036854775808:Int);let k15:=(9223372036854775807:Int);let k16:=k2=sgsL (List.length k7) (sgE k7 1684);let k17:=AV.s false [Cell.row 16 k8 (sgE k0 4)];let k18:=AV.s false [Cell.v (Value.int IntKind.i64 turn)];let k19:=fun (zz:Nat)=>(IntKind.wrap IntKind.i64 ((↑zz:Int)+IntKind.wrap IntKind.i64 (Int.tmod (IntKind.wrap IntKind.u64 turn) (14:Int))));let k20:=AV.s false [Cell.v (errV k8)];let k21:=fun (zz:Nat)=>(AV.s false [Cell.v (Value.int IntKind.i64 (↑zz:Int))]);let k22:=AV.s false [Cell.f];let k23:=ofP (sgsL k8 (sgE k0 4));let k24:=AV.s false [Cell.hd 23];let k25:=AV.s false [Cell.hd 28];let k26:=fun (zz:Nat)=>(turnL k0 turn zz);let k27:=fun (zz:Nat)=>(AV.s false [Cell.v (Value.int IntKind.i64 (IntKind.wrap IntKind.i64 ((↑zz:Int)+(1:Int))))]);let k28:=fun (zz:Nat)=>(sqC (List.getD (ofP k0) zz sq0) 88);let k29:=AV.s false [Cell.hd 900];let k30:=fun (zz:Nat)=>(Int.tmod (↑zz:Int) (2:Int) == bits BinOp.and IntKind.i64 turn (1:Int));let k31:=fun (zz:Nat)=>(sqC (List.getD k2 zz sq0) 88);let k32:=(↑k8:Int);let k33:=List.length l;let k34:=sgsL (List.length k7) (sgE k7 1684);let k35:=fun (zz:Nat)=>(1+List.length (k26 zz));let k36:=(0:Int);let k1:=fun (zz:Nat)=>(List.getD k0 (Int.toNat (Int.tmod (k19 zz) k32)) sq0);let k3:=fun (zz:Nat)=>(sgsL (List.length (k26 zz)) (sgE (k26 zz) 4));let k4:=(if 20000<List.length k0 then (2:Int) else k36) == k36;let k5:=(if 20000<List.length (ofP k0) then (2:Int) else k36) == k36;let k6:=fun (zz:Nat)=>((if 20000<List.length (k26 zz) then (2:Int) else k36) == k36);let k13:=fun (zz:Nat)=>(ABlk.row 43 16 (List.length (k26 zz)) (sgE (k26 zz) 4));(∀ (i:Nat),i<List.length l→CsLe (pqE l i) (pqE (pqL k33 fun (a:Nat)=>pqE l a) i))∧   (∀ (p:PQ),List.Mem p (pqL k33 fun (a:Nat)=>pqE l a)→(k14≤PQ.ax p∧PQ.ax p≤k15)∧(k14≤PQ.ay p∧PQ.ay p≤k15)∧(k14≤PQ.ad p∧PQ.ad p≤k15)∧(k14≤PQ.cx p∧PQ.cx p≤k15)∧(k14≤PQ.cy p∧PQ.cy p≤k15)∧k14≤PQ.cd p∧PQ.cd p≤k15)∧     ((AVle (AV.s false [Cell.row 16 (List.length (List.take 14 (pqL k33 (pqE l)))) fun (a:Nat)=>(sqC (List.getD (sqsOf (List.take 14 (pqL k33 fun (a:Nat)=>pqE l a))) a sq0) 4)]) k17∧True)∧True)∧       (∀ (i:Nat),i<List.length k23→(List.all (sqC (List.getD k23 i sq0) 88) fun (a:Cell)=>Cell.flat a)=true)∧         (∀ (i:Nat),i<List.length k0→CsLe (sqC (List.getD k0 i sq0) 4) (sqC (List.getD (sgsL k8 (sgE k0 4)) i sq0) 4))∧           4≤1500∧             ((SmA k24∧SmA k20∧True)∧ABle (ABlk.row 43 16 (List.length k23) fun (a:Nat)=>(sqC (List.getD k23 a sq0) 88)) k9∧True)∧               (∀ (i:Nat),i<List.length (ofP k2)→(List.all (sqC (List.getD (ofP k2) i sq0) 1684) fun (a:Cell)=>Cell.flat a)=true)∧                 (∀ (i:Nat),i<List.length (ofP k0)→CsLe (k28 i) (k31 i))∧                   88≤1500∧                     ((SmA k25∧SmA k12∧True)∧ABle (ABlk.row 43 16 (List.length (ofP (sgsL (List.length (ofP k0)) (sgE (ofP k0) (mS 4))))) fun (a:Nat)=>(sqC (List.getD (ofP k2) a sq0) 1684)) k11∧True)∧                       (Exists fun (i:Nat)=>i≤List.length k0∧(SmA k18∧SmA k17∧SmA k24∧SmA k20∧SmA k25∧SmA k12∧SmA k29∧AVle (AV.s false [Cell.v (Value.int IntKind.i64 k36)]) (k21 i)∧True)∧SmB k9∧SmB k11∧ABle (ABlk.row 43 16 0 fun (_x:Nat)=>[]) (k13 i)∧True)∧                         ∀ (i:Nat),                           i≤List.length k0→                             (decide ((↑i:Int)<k32)=true→(14:Int)≠k36∧k32≠k36∧(k36≤Int.tmod (k19 i) k32∧Int.tmod (k19 i) k32<k32)∧(2:Int)≠k36∧((k30 i)=true→(0≤List.length (k26 i)∧(k35 i)*256≤140737488355328)∧Exists fun (i':Nat)=>i'≤List.length k0∧List.length k0-i'<List.length k0-i∧(SmA k18∧SmA k17∧SmA k24∧SmA k20∧SmA k25∧SmA k12∧SmA k29∧AVle (k27 i) (k21 i')∧True)∧SmB k9∧SmB k11∧ABle (ABlk.row 43 16 (k35 i) fun (j:Nat)=>if j<1 then List.getD [(qsC [(Prod.fst (Prod.snd (k1 i)),4),(Prod.snd (Prod.snd (k1 i)),4),(Prod.fst (Prod.fst (k1 i)),4),(Prod.snd (Prod.fst (k1 i)),4)])] j [] else (sqC (List.getD (k26 i) (j-1) sq0) 4)) (k13 i')∧True)∧((k30 i)=false→(0≤List.length (k26 i)∧(k35 i)*256≤140737488355328)∧Exists fun (i':Nat)=>i'≤List.length k0∧List.length k0-i'<List.length k0-i∧(SmA k18∧SmA k17∧SmA k24∧SmA k20∧SmA k25∧SmA k12∧SmA k29∧AVle (k27 i) (k21 i')∧True)∧SmB k9∧SmB k11∧ABle (ABlk.row 43 16 (k35 i) fun (j:Nat)=>if j<1 then List.getD [(sqC (k1 i) 4)] j [] else (sqC (List.getD (k26 i) (j-1) sq0) 4)) (k13 i')∧True))∧                               (decide ((↑i:Int)<k32)=false→                                 (∀ (i_1:Nat),i_1<List.length (ofP (k3 i))→(List.all (sqC (List.getD (ofP (k3 i)) i_1 sq0) 88) fun (a:Cell)=>Cell.flat a)=true)∧                                   (∀ (i_1:Nat),i_1<List.length (k26 i)→CsLe (sqC (List.getD (k26 i) i_1 sq0) 4) (sqC (List.getD (k3 i) i_1 sq0) 4))∧                                     4≤1500∧                                       (true=true→                                           (k4=true→                                               (k5=true→                                                   ((k6 i)=true→                                                       (decide k16=true→true=true∧k4=true∧k5=true∧(k6 i)=true∧(∀ (i:Nat),i<List.length (ofP k0)→CsLe (k28 i) (k31 i))∧(∀ (i:Nat),i<List.length k7→CsLe (sqC (List.getD k7 i sq0) 1684) (sqC (List.getD k34 i sq0) 1684))∧(88≤50000∧1684≤50000)∧List.length (ofP k0)≤1000000000000∧decide k16=true∧(∀ (i:Nat),i<List.length (ofP k0)→CsLe (k28 i) (k31 i))∧(∀ (i_1:Nat),i_1<List.length (ofP (k3 i))→CsLe (sqC (List.getD (ofP (k3 i)) i_1 sq0) 88) (sqC (List.getD (sgsL (List.length (ofP (k3 i))) fun (a:Nat)=>(sqC (List.getD (ofP (k3 i)) a sq0) 88)) i_1 sq0) 88))∧(88≤50000∧88≤50000)∧List.length (ofP k0)≤1000000000000∧AVle (AV.s false [Cell.v (Value.bool (decide (k2=sgsL (List.length (ofP (k3 i))) fun (a:Nat)=>(sqC (List.getD (ofP (k3 i)) a sq0) 88))))]) k10)∧                                                         (decide k16=false→true=true∧k4=true∧k5=true∧(k6 i)=true∧(∀ (i:Nat),i<List.length (ofP k0)→CsLe (k28 i) (k31 i))∧(∀ (i:Nat),i<List.length k7→CsLe (sqC (List.getD k7 i sq0) 1684) (sqC (List.getD k34 i sq0) 1684))∧(88≤50000∧1684≤50000)∧List.length (ofP k0)≤1000000000000∧decide k16=false∧AVle k22 k10))∧                                                     ((k6 i)=false→true=true∧k4=true∧k5=true∧(k6 i)=false∧AVle k22 k10))∧                                                 (k5=false→true=true∧k4=true∧k5=false∧AVle k22 k10))∧                                             (k4=false→true=true∧k4=false∧AVle k22 k10))∧                                         (true=false→true=false∧AVle k22 k10))):=by kernel_rfl
set_option maxRecDepth 100000 in
theorem spr_true (l:List PQ) (turn:Int) (hl:∀ p∈l,p.ok):vc Tryz.prog (lk gSa) Tryz.f4.ntmps (sprI l turn) (Tryz.f4.body.getD .skip) ⟨entryS [.s false [.row 6 l.length (pqE l)],.s false [.v (.int .i64 turn)]] 0,[]⟩ (retVC Tryz.prog Tryz.f4.results.toList (.s false [.v (.bool true)])):=by
 rw[spr_vc]
 have hL:(sqsOf (l.take 14)).length≤14:=by unfold sqsOf;rw[List.length_map,List.length_take];omega
 have hl':∀ p,List.Mem p l→p.ok:=hl
 simp only[pqL_E,sgsL_E,sgsL_E2,SmA,SmB,cs_refl,av_refl,ab_refl,true_and,and_true,implies_true,decide_eq_true_eq,decide_eq_false_iff_not]
 have hlen:(l.take 14).length=(sqsOf (l.take 14)).length:=by unfold sqsOf;rw[List.length_map]
 generalize sqsOf (l.take 14)=L at hL hlen ⊢
 have h20:L.length≤20000:=by omega
 have hP:=of_few hL
 refine⟨hl',AVle.one (CLe.rowC hlen (fun _ _=>CsLe.refl _) fun _ _=>sqC_cl _ _),fun _ _=>rfl,by omega,ABle.refl _,fun _ _=>rfl,by omega,ABle.refl _,⟨0,Nat.zero_le _,AVle.ik rfl,ABle.row rfl (fun j hj=>absurd hj (Nat.not_lt_zero _)) (fun _ _=>rfl)⟩,fun k hk=>⟨fun h1=> ?_,fun h1=> ?_⟩⟩
 ·have hk':k<L.length:=by omega
  have hi:=turn_ix (L:=L) (turn:=turn) hk' hL
  have hlen:=turnL_len L turn k
  refine⟨by decide,by omega,hi,by decide,fun h2=>⟨by omega,k+1,by omega,by omega,AVle.ik (by rw[IntKind.wrap_i64];omega),ABle.row (by show _=_+1;omega) (fun j hj=> ?_) (fun _ _=>sqC_cl _ _)⟩,fun h2=>⟨by omega,k+1,by omega,by omega,AVle.ik (by rw[IntKind.wrap_i64];omega),ABle.row (by show _=_+1;omega) (fun j hj=> ?_) (fun _ _=>sqC_cl _ _)⟩⟩
  ·cases j with
   |zero=>
    show CsLe _ (sqC (turnS L turn k) 4)
    unfold turnS
    simp only[h2,if_true]
    exact CsLe.refl _
   |succ j=>
    rw[if_neg (by omega)]
    exact CsLe.refl _
  ·cases j with
   |zero=>
    show CsLe _ (sqC (turnS L turn k) 4)
    unfold turnS
    simp only[h2]
    exact CsLe.refl _
   |succ j=>
    rw[if_neg (by omega)]
    exact CsLe.refl _
 ·have hk':k=L.length:=by omega
  subst hk'
  have hlen:=turnL_len L turn L.length
  have e1:ofP (turnL L turn L.length)=ofP L:=of_turned h20 (by omega) (turnL_turned hL)
  have e2:ofP (ofP L)=ofP L:=of_of h20 hP
  have c1:((if 20000<L.length then (2:Int) else 0) == 0)=true:=by rw[if_neg (by omega)];rfl
  have c2:((if 20000<(ofP L).length then (2:Int) else 0) == 0)=true:=by rw[if_neg (by omega)];rfl
  have c3:((if 20000<(turnL L turn L.length).length then (2:Int) else 0) == 0)=true:=by rw[if_neg (by omega)];rfl
  simp only[e1,e2,c1,c2,c3]
  refine⟨fun _ _=>rfl,by omega,fun _=>⟨fun _=>⟨fun _=>⟨fun _=>⟨fun _=> ?_,fun h=>absurd trivial h⟩,fun h=>by cases h⟩,fun h=>by cases h⟩,fun h=>by cases h⟩,fun h=>by cases h⟩
  exact⟨trivial,trivial,trivial,by omega,by omega,trivial,by omega,by omega,AVle.bool (decide_eq_true trivial)⟩
def sprS:Spec
 |[.o (.s false [.row 6 n e]),.i _turn]=>some (.s false [.v (.bool true)],[∀ i,i<n→CsLe (e i) (pqE (pqL n e) i),∀ p∈pqL n e,p.ok])
 |_=>none
set_option maxRecDepth 100000 in
theorem spr_ok (B:Nat):RunOK Tryz.prog False B 4 (runC sprS):=by
 refine fn_specR (c:=Tryz.f4.body.getD .skip) (ctx_ok gSa_ok) (by kernel_rfl) Tryz.func4 (by kernel_rfl) (by kernel_rfl) ?_ B
 intro pvs av ps h hp
 unfold sprS at h
 split at h
 ·rename_i n e turn
  cases h
  obtain⟨h1,h2,_⟩:=hp
  exact⟨[.s false [.row 6 (pqL n e).length (pqE (pqL n e))],.s false [.v (.int .i64 turn)]],sprI (pqL n e) turn,AvsLe.cons (AVle.one (CLe.rowC (pqL_len n e).symm h1 fun _ _=>rfl)) (AvsLe.cons (AVle.refl _) AvsLe.nil),by rw[Tryz.ntmps4];simp,spr_true _ _ h2⟩
 ·cases h
end Go.Proofs.YtcmplpkmfbhpdaaGreat
namespace Go.Proofs.YtcmplpkmfbhpdaaGreat
open Go Go.ChangeShapes Go.WideShapes Go.ChangeAt Go.RowKit
set_option maxRecDepth 100000 in
theorem splitAgain_lifted (os:Os) (started:os.Started) (H:Type) (enc:TypeId × Value→H) :
  ReturnsInHanded {} Tryz.checked os 4 .any (Rows.splitAgainSpec.pre6 enc Tryz.prog Tryz.f4 Rows.splitAgainRow.domain false) (Rows.splitAgainSpec.post enc Tryz.prog Tryz.f4 false true false false):=by
 refine returnsInHanded_of_change (C:=Tryz.checked) Tryz.own started (by kernel_rfl) Tryz.func4
  (ChangeSpec.witness6 (enc:=enc) (C:=Tryz.checked) false ⟨#[],#[.slice none 0 0,.int .i64 0],[]⟩ 8 (by kernel_rfl) (by kernel_rfl) (by kernel_rfl) (by kernel_rfl)) ?_
 intro W base args ds gs before hval0 hW hcnd _
 have hval:∀ (j:Nat) t v,Tryz.f4.params[j]? =some t→args[j]? =some v→Value.okWide Tryz.prog W .any base t v:=hval0
 have hW':=hW
 obtain⟨p,q,hA0,hV,rfl,hfz,hnd⟩:=hW
 have hA:DataW.TrodAll enc Tryz.prog W 0 (fun _=>true) true Tryz.f4.params.toList args.toList ds p:=hA0
 rw[Tryz.params4] at hA hval
 obtain⟨v0,v1,d0,d1,p0,p1,rfl,rfl,rfl,h0,h1⟩:=trodAll_two hA
 obtain⟨rfl,rfl⟩:=trodVars_none hV
 obtain⟨l,hP,hc⟩:=open_pqs (hval 0 29 v0 rfl rfl) h0
 obtain⟨a,rfl,rfl,rfl,-⟩:=open_int Tryz.underlying3 (hval 1 3 v1 rfl rfl) h1
 clear hA0 hval0
 have hrun:runC sprS (fun _=>none) [.s false [.row 6 l.length (pqE l)],.s false [.v (.int .i64 a)]] 0=some { val:=some (.s false [.v (.bool true)]),ps:=[∀ i,i<l.length→CsLe (pqE l i) (pqE (pqL l.length (pqE l)) i),∀ p∈pqL l.length (pqE l),p.ok] } :=rfl
 refine (call_of (spr_ok 0) (w:=W) (vs:=[v0,.int .i64 a]) (F:=fun g=>g<W.heap.size) (G:=fun _=>⟨undef,fun _=>False⟩) hrun ⟨fun _ _=>by rw[pqL_E];exact CsLe.refl _,by rw[pqL_E];exact hP.2.1,trivial⟩ rfl (fun _ h=>h) ⟨rfl,fun i av v h1 h2=> ?_⟩).mono fun e W' ⟨he,hb⟩=> ?_
 ·match i,h1,h2 with
  |0,h1,h2=>cases h1;cases h2;exact pq_arg hc
  |1,h1,h2=>cases h1;cases h2;exact one_ok (GOk.of (.v _ rfl))
 ·subst he
  exact⟨_,rfl,post_true hW' hb rfl rfl rfl (by kernel_rfl)⟩
theorem splitAgain_holds:Rows.SplitAgainSaid:=
 OpenClaim.holds_of_wide 4 Tryz.f4 rfl rfl rfl rfl rfl rfl rfl ⟨rfl,rfl,rfl,rfl,rfl⟩ rfl rfl rfl rfl rfl (by kernel_rfl) Tryz.func4 (by kernel_rfl)
  (of_decide_eq_true (by kernel_rfl)) (by unfold Func.isWrapper;first | (rw[if_pos (by decide +kernel)];kernel_rfl) | (rw[if_neg (by decide +kernel)];exact⟨rfl,rfl⟩))
  (fun os started H enc _=>splitAgain_lifted os started H enc)
#print axioms splitAgain_holds
end Go.Proofs.YtcmplpkmfbhpdaaGreat
