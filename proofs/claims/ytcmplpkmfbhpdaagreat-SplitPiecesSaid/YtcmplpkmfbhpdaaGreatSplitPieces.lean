/-
  SplitPieces returns true for every input; each argument reads behind the call as it read before. No condition.
-/
import Derived.Test.YtcmplpkmfbhpdaaGreatRows
import Derived.Test.YtcmplpkmfbhpdaaGreatSpL
import Derived.Test.YtcmplpkmfbhpdaaGreatRnT
import Derived.Test.YtcmplpkmfbhpdaaGreatSpU
import Derived.Test.YtcmplpkmfbhpdaaGreatRnQ
import Derived.Test.YtcmplpkmfbhpdaaGreatRnZ
import Derived.WalkKit
import Derived.ProofKit
namespace Go.Proofs.YtcmplpkmfbhpdaaGreat
open Go Go.ChangeShapes Go.WideShapes Go.ChangeAt Go.RowKit
theorem Tryz.own:ownKnob Tryz.prog.godebug=none:=by kernel_rfl
theorem Tryz.laidOutAll:laidOutB Tryz.prog=true:=by kernel_rfl
theorem aia {P:Program} (hL:laidOutB P=true) {H:Type} {enc:TypeId × Value->H} {W W':World} (hb:Below W.heap.size W W'):∀ {ts:List TypeId} {vs:List Value} {ds:List (DataW H)} {ps:List MemPlace},
  (ts.all λt=>P.readableRec t && decide (t<P.types.size))=true->DataW.TrodAll enc P W 0 (λ_=>true) true ts vs ds ps->(∀ x∈ps,x.block<W.heap.size)->
  DataW.TrodAll enc P W' 0 (λb=>decide (b<W.heap.size)) true ts vs ds ps:=by
 intro ts;induction ts with
 |nil=>
  intro vs ds ps _ h _;cases vs<;>cases ds<;>simp_all [DataW.TrodAll]
 |cons t ts ih=>
  intro vs ds ps hr h hlt;obtain⟨v,vs',d,ds',p,q,rfl,rfl,rfl,h1,h2⟩:=trodAll_cons h;simp only[List.all_cons,Bool.and_eq_true,decide_eq_true_eq] at hr;exact⟨p,q,Below.trod hL hr.1.1 hr.1.2 h1 hb (λx hx=>hlt x (List.mem_append.2 (.inl hx))),
   ih (by simpa using hr.2) h2 (λx hx=>hlt x (List.mem_append.2 (.inr hx))),rfl⟩
theorem ao4 {H:Type} {enc:TypeId × Value->H} {f:Func} {s:ChangeSpec} {W W':World} {args:Array Value} {ds:List (DataW H)} {before:List MemPlace}
  (hW:DataW.Whole enc Tryz.prog f.params.toList s.vars false W args.toList ds [] before) (hb:Below W.heap.size W W') (hvars:s.vars=[])
  (hspec:s.fn H (ds++[])= { results:=[.lit (.bool true)],args:=ds }) (hres:f.resultTypes= #[4])
  (hread:(f.params.toList.all λt=>Tryz.prog.readableRec t && decide (t<Tryz.prog.types.size))=true) :
  s.post enc Tryz.prog f false true false false W args (.bool true) W':=by
 have hlt:=hW.lt;have hW':=hW;obtain⟨p,q,hA,hV,rfl,hfz,hnd⟩:=hW;rw[hvars] at hV;have hq:q=[]:=hV;subst hq;refine⟨ds,[],_,[],p,[],hW',?_,?_,?_,hb.frame _,λh=>by cases h⟩
 ·rw[hspec,hres];exact trodAll_mk1 (shut_bool Tryz.underlying4 true)
 ·rw[hspec];exact aia Tryz.laidOutAll hb hread hA (λx hx=>hlt x (by simpa using hx))
 ·rw[hspec,hvars];rfl
end Go.Proofs.YtcmplpkmfbhpdaaGreat
namespace Go.Proofs.YtcmplpkmfbhpdaaGreat
open Go Go.RowKit
theorem avC {P:Program} {D:Prop} {f:FuncId} {run:Run} (h:aai P D 0 f run) {avs:List AV} {b:Bool} {e:Eff} {w:World} {vs:List Value} (hr:run (λ_=>none) avs 0=some e) (hp:aca e.ps) (hv:e.val=some (.s false [.v (.bool b)]))
  {F:Nat->Prop} {G:Nat->GV} (hF:∀ g,F g->g<w.heap.size) (hvs:aed (GOk G F w) avs vs):Calls P f vs.toArray w λen w'=>en= .returned (.bool b)/\Below w.heap.size w w':=by
 refine (h.2 (λ_=>none) avs 0 e hr hp G F w vs ⟨Nat.zero_le _,hF,λk b h=>(by cases h),λk k' h=>absurd rfl h,λk g h=>absurd rfl h,λt av h=>(by cases h)⟩ hvs).mono ?_;rintro en w' ⟨v,rfl,G',F',p⟩;have h1:=p.v _ hv;have h2:=(abm (aal h1)).1;subst h2;exact⟨rfl,p.os,p.tape,p.out,p.sz,λg hg=>p.h g hg λk _ hk=>absurd rfl hk⟩
end Go.Proofs.YtcmplpkmfbhpdaaGreat
namespace Go.Proofs.YtcmplpkmfbhpdaaGreat
open Go Go.RowKit
noncomputable def gPi:List (Nat × Run):=[(13,aaF atc),(11,ap4 ofC),(23,aaF ayS),(12,aaF atx),(14,ain (aaF azo)),(24,ayA),(25,aaF ann),(26,aaF aj5)]
theorem ax4:∀ p∈gPi,∀ B,aai Tryz.prog False B p.1 p.2:=aad aug (aad (alg aso) (aad (awS False) (aad au3 (aad (aek (ayt False)) (aad (an1 False) (aad (aqR False) (aad (apo False) λp hp=>by cases hp)))))))
def ahi (b:List (Rp × Rp)):List (Rp × Rp):=ofR b b.length
noncomputable def aut (L:List Sq) (b:List (Rp × Rp)):abW:=⟨Nat,λi=>i<=(ofP L).length,λi=>⟨[(6,.s false [.hd 20]),(8,.s false [.row 12 (ahi b).length (rsE (ahi b))]),(9,.s false [.v (.int .i64 (i:Nat))])],[(20,.row 43 16 (ofP L).length (sgE (ofP L) (mS 4)))]⟩,λi=>(ofP L).length-i,[],[],none⟩
noncomputable def aAG (L:List Sq) (b:List (Rp × Rp)):List (Nat × abW):=[(8,aut L b),(1000001,pre [] [.say [(3,.s false [.row 16 L.length (sgE L 4)]),(4,.s false [.row 12 b.length (rsE b)])] []]),(1000003,pre [] [.say [(6,.s false [.hd 20]),(7,.s false [.v (amW L.length)])] [(20,.row 43 16 (ofP L).length (sgE (ofP L) (mS 4)))]]),(1000004,pre [] [.say [(8,.s false [.row 12 (ahi b).length (rsE (ahi b))])] []])]
noncomputable def aAh (l:List PQ):List (Nat × abW):=aAG (acS (l.take 14)) (acK (l.take 14))
abbrev awp (l:List PQ):Prop:=vc Tryz.prog (lk gPi) Tryz.f6.ntmps (aAh l) (Tryz.f6.body.getD .skip) ⟨aao [.s false [.row 6 l.length (pqE l)]] 0,[]⟩ (aaH Tryz.prog Tryz.f6.results.toList (.s false [.v (.bool true)]))
theorem axj (l:List PQ):awp l=(let k2:=acS (List.take 14 l);let k6:=acK (List.take 14 l);let k9:=(↑(ofP k2).length:Int);let k10:=(↑(ahi k6).length:Int);let k11:=AV.s false [aaa.v (Value.bool true)];let k13:=abt k2.length (sgE k2 4);let k15:=(0:Int);let k16:=aae.row 43 16 (ofP k2).length (sgE (ofP k2) 88);let k17:=λ(zz:Nat)=>(↑zz:Int);let k18:=AV.s false [aaa.row 12 (ahi k6).length (rsE (ahi k6))];let k20:=AV.s false [aaa.f];let k21:=(-9223372036854775808:Int);let k22:=(9223372036854775807:Int);let k23:=rdT k6.length (rsE k6);let k24:=λ(zz:Nat)=>((k17 zz)-(1:Int));let k26:=λ(zz:Nat)=>(AV.s false [aaa.v (Value.int IntKind.i64 (k17 zz))]);let k27:=AV.s false [aaa.hd 20];let k29:=λ(zz:Nat)=>(AV.s false [aaa.v (Value.int IntKind.i64 (IntKind.wrap IntKind.i64 ((k17 zz)+(1:Int))))]);let k30:=l.length;let k31:=λ(zz:Nat)=>(sqC (List.getD k2 (zz-0) sq0) 4);let k32:=0+k2.length;let k36:=λ(zz:Nat)=>(IntKind.wrap IntKind.i64 (k24 zz));let k37:=ofR k23 k23.length;let k38:=k9 != k10;let k39:=ofP k13;let k0:=λ(zz:Nat)=>(List.getD (ahi k6) (k17 zz).toNat rs0);let k1:=λ(zz:Nat)=>(List.getD (ofP k2) (k17 zz).toNat sq0);let k8:=λ(zz:Nat)=>(List.getD (ofP k2) (k36 zz).toNat sq0);let k12:=(if 20000<k2.length then (2:Int) else k15) != k15;let k14:=λ(zz:Nat)=>(ptC ((k1 zz).1.1,(k1 zz).1.2) 88);let k19:=λ(zz:Nat)=>(ptC ((k1 zz).2.1,(k1 zz).2.2) 88);let k25:=λ(zz:Nat)=>(!decide (aa5 (k8 zz) (k1 zz)<k15));let k28:=λ(zz:Nat)=>(k0 zz).1;let k33:=λ(zz:Nat)=>(ptC (k1 zz).1 88);let k34:=λ(zz:Nat)=>(k0 zz).2;let k35:=λ(zz:Nat)=>(ptC (k1 zz).2 88);let k3:=λ(zz:Nat)=>((jv (k28 zz).2.1.sign (k28 zz).2.1.natAbs,jv (k28 zz).2.2.sign (k28 zz).2.2.natAbs).2-(k15+(1:Int)));let k4:=λ(zz:Nat)=>(!ByteArray.toList (ptT ((k1 zz).1.1,(k1 zz).1.2)) == ByteArray.toList (ptT (toQ (rz (k28 zz)))));let k5:=λ(zz:Nat)=>((jv (k34 zz).2.1.sign (k34 zz).2.1.natAbs,jv (k34 zz).2.2.sign (k34 zz).2.2.natAbs).2-(k15+(1:Int)));let k7:=λ(zz:Nat)=>(!ByteArray.toList (ptT ((k1 zz).2.1,(k1 zz).2.2)) == ByteArray.toList (ptT (toQ (rz (k34 zz)))));let p2:=λ(i:Nat)(Z:Prop)=>(k15<=(k17 i)/\(k17 i)<k9)/\(k17 i).toNat<(ofP k2).length/\Z;let p3:=λ(i:Nat)(i':Nat)=>i'<=(ofP k2).length/\(ofP k2).length-i'<(ofP k2).length-i/\(SmA k27/\SmA k18/\aac (k29 i) (k26 i')/\True)/\SmB k16/\True;let p4:=λ(i:Nat)(Z:Prop)=>(k15<=IntKind.wrap IntKind.i64 (k24 i)/\IntKind.wrap IntKind.i64 (k24 i)<k9)/\(k36 i).toNat<(ofP k2).length/\Z;let p5:=λ(i:Nat)(Z:Prop)=>aan (k33 i) (k14 i)/\88<=50000/\(k15<=(k17 i)/\(k17 i)<k10)/\JZ (k28 i)/\Int.NonNeg (k3 i)/\SzR (rz (k28 i)) 1000/\Z;let p6:=λ(Z:Prop)=>(∀ (i:Nat),i<k2.length->aan (sqC (List.getD k2 i sq0) 4) (sqC (List.getD k13 i sq0) 4))/\Z;let p7:=λ(i:Nat)(Z:Prop)=>JZ (k34 i)/\Int.NonNeg (k5 i)/\SzR (rz (k34 i)) 1000/\Z;let p8:=aac k20 k11;let p0:=λ(i:Nat)(Z:Prop)=>p2 i (p5 i ((k4 i)=false/\p2 i (aan (k35 i) (k19 i)/\88<=50000/\(k15<=(k17 i)/\(k17 i)<k10)/\Z)));let p1:=λ(i:Nat)(Z:Prop)=>p7 i ((k7 i)=false/\decide ((k17 i)>k15)=true/\p4 i (p2 i (SmC (sqC (k8 i) 88)/\SmC (sqC (k1 i) 88)/\88<=50000/\Z)));(∀ (i:Nat),i<l.length->aan (pqE l i) (pqE (pqL k30 λ(a:Nat)=>pqE l a) i))/\(∀ (p:PQ),List.Mem p (pqL k30 λ(a:Nat)=>pqE l a)->(k21<=PQ.ax p/\PQ.ax p<=k22)/\(k21<=PQ.ay p/\PQ.ay p<=k22)/\(k21<=PQ.ad p/\PQ.ad p<=k22)/\(k21<=PQ.cx p/\PQ.cx p<=k22)/\(k21<=PQ.cy p/\PQ.cy p<=k22)/\k21<=PQ.cd p/\PQ.cd p<=k22)/\((aac (AV.s false [aaa.row 16 (List.take 14 (pqL k30 λ(a:Nat)=>pqE l a)).length λ(a:Nat)=>(sqC (List.getD (acS (List.take 14 (pqL k30 λ(a:Nat)=>pqE l a))) a sq0) 4)]) (AV.s false [aaa.row 16 k2.length (sgE k2 4)])/\aac (AV.s false [aaa.row 12 (List.take 14 (pqL k30 λ(a:Nat)=>pqE l a)).length λ(a:Nat)=>rsE (acK (List.take 14 (pqL k30 λ(a:Nat)=>pqE l a))) a]) (AV.s false [aaa.row 12 k6.length (rsE k6)])/\True)/\True)/\(0<=k2.length/\k32*256<=140737488355328)/\(∀ (i:Nat),i<k39.length->(List.all (sqC (List.getD k39 i sq0) 88) λ(a:aaa)=>aaa.flat a)=true)/\p6 (4<=1500/\k2.length<=20/\((SmA k27/\SmA (AV.s false [aaa.v (amW k2.length)])/\True)/\aaf (aae.row 43 16 k39.length λ(a:Nat)=>(sqC (List.getD k39 a sq0) 88)) k16/\True)/\(RwT k6.length (rsE k6))/\OfW k23/\((aac (AV.s false [aaa.row 12 k37.length λ(a:Nat)=>rsE k37 a]) k18/\True)/\True)/\((!true)=true->(!true)=true/\p8)/\((!true)=false->(k12=true->(!true)=false/\k12=true/\p8)/\(k12=false->(k38=true->(!true)=false/\k12=false/\k38=true/\p8)/\(k38=false->(!true)=false/\k12=false/\k38=false/\p6 ((∀ (i:Nat),i<0+k2.length->aan (k31 i) (sqC (List.getD (abt k32 λ(j:Nat)=>(k31 j)) i sq0) 4))/\(4<=50000/\4<=50000)/\k2.length<=1000000000000/\((!decide (k13=abt k32 λ(j:Nat)=>(k31 j)))=true->aac k20 k11)/\((!decide (k13=abt k32 λ(j:Nat)=>(k31 j)))=false->(Exists λ(i:Nat)=>i<=(ofP k2).length/\(SmA k27/\SmA k18/\aac (AV.s false [aaa.v (Value.int IntKind.i64 k15)]) (k26 i)/\True)/\SmB k16/\True)/\∀ (i:Nat),i<=(ofP k2).length->(decide ((k17 i)<k9)=true->((k4 i)=true->p2 i (p5 i ((k4 i)=true/\p8)))/\((k4 i)=false->((k7 i)=true->p0 i (p7 i ((k7 i)=true/\p8)))/\((k7 i)=false->(decide ((k17 i)>k15)=true->((k25 i)=true->p0 i (p1 i ((k25 i)=true/\p8)))/\((k25 i)=false->p0 i (p1 i ((k25 i)=false/\p2 i (p4 i (SmC (sqC (k1 i) 88)/\SmC (sqC (k8 i) 88)/\88<=50000/\(decide (aa5 (k1 i) (k8 i)<k15)=true->aac k20 k11)/\(decide (aa5 (k1 i) (k8 i)<k15)=false->Exists λ(i':Nat)=>(p3 i i'))))))))/\(decide ((k17 i)>k15)=false->p0 i (p7 i ((k7 i)=false/\decide ((k17 i)>k15)=false/\Exists λ(i':Nat)=>(p3 i i')))))))/\(decide ((k17 i)<k9)=false->aac (AV.s false [aaa.t]) k11)))))))):=by kernel_rfl
theorem aub {l:List Sq} {s:Nat} : abt l.length (λa=>sqC (l.getD a sq0) s)=l:=air
theorem auk (l:List PQ):(acK l).map toS=acS l:=by
 unfold acK acS;rw[List.map_map];rfl
theorem OfW.pq {l:List PQ} (h:∀ p∈l,p.ok) (hn:l.length<=14):OfW (acK l):=by
 have sz:∀ {x:Int},afe x->Dec.dg x.natAbs<=100:=λ{x} hx=>Nat.le_trans (am3 (by unfold afe at hx;omega)) (by decide);have su:∀ d,Dec.dg (acC d).natAbs<=100:=λd=>Nat.le_trans (am3 (by have:=aeg d;omega)) (by decide);refine⟨λs hs=> ?_,λs hs=> ?_,by unfold acK;rw[List.length_map];exact hn⟩
 ·obtain⟨p,_,rfl⟩:=List.mem_map.1 hs;exact⟨(aeg _).1,(aeg _).1⟩
 ·obtain⟨p,hp,rfl⟩:=List.mem_map.1 hs;obtain⟨h1,h2,h3,h4,h5,h6⟩:=h p hp;exact⟨⟨sz h1,sz h2,su _⟩,⟨sz h4,sz h5,su _⟩⟩
theorem atW {b:List (Rp × Rp)} (h:OfW b):(ahi b).map toS=ofP (b.map toS):=axy h.ok (Nat.le_trans h.n (by decide))
set_option maxRecDepth 100000 in
theorem aqU (l:List PQ) (hl:∀ p∈l,p.ok):awp l:=by
 rw[axj];have hl':∀ p,List.Mem p l->p.ok:=hl;have hL:(acS (l.take 14)).length<=14:=by unfold acS;rw[List.length_map,List.length_take];omega
 have hb:OfW (acK (l.take 14)):=OfW.pq (λp hp=>hl p (List.mem_of_mem_take hp)) (by rw[List.length_take];omega);have hbL:=auk (l.take 14);simp only[atk,air,aub,awk,SmA,SmB,SmC,aaZ,aaP,abj,avT,av6,agz,Prod.eta,true_and,and_true,implies_true,Int.toNat_natCast,Nat.sub_zero,Nat.zero_add,decide_eq_true_eq,decide_eq_false_iff_not,decide_true,Bool.not_true,Bool.false_eq_true,false_implies];have hlen:(l.take 14).length=(acS (l.take 14)).length:=by unfold acS;rw[List.length_map]
 have hlen2:(l.take 14).length=(acK (l.take 14)).length:=by unfold acK;rw[List.length_map]
 generalize acS (l.take 14)=L at hL hlen hbL ⊢;generalize acK (l.take 14)=b at hb hlen2 hbL ⊢;have hE:=atW hb;rw[hbL] at hE;have hn:(ahi b).length=(ofP L).length:=by rw[<- hE,List.length_map]
 have hP:=axw hL;have hAt:∀ i,i<(ofP L).length->toS ((ahi b).getD i rs0)=(ofP L).getD i sq0:=λi hi=>by
  rw[<- hE];simp[List.getD,show i<(ahi b).length by omega]
 have T:TL (ahi b) _:=hb.of (Nat.le_refl b.length);have c1:((if 20000<L.length then (2:Int) else 0) != 0)=false:=by rw[if_neg (by omega)];rfl
 have c2:(((ofP L).length:Int) != ((ahi b).length:Int))=false:=by rw[hn];simp
 simp only[c1,c2,Bool.false_eq_true,false_implies,true_and,forall_const];have big:∀ i:Nat,i<(ofP L).length->IntKind.wrap .i64 ((i:Int)+1)=((i+1:Nat):Int):=λi hi=>by rw[IntKind.wrap_i64]<;>omega
 refine⟨hl',⟨aac.one (CLe.rowC hlen (λ_ _=>aan.refl _) λ_ _=>adh _ _),aac.rsx hlen2 λ_ _=>rfl⟩,by omega,λ_ _=>rfl,by omega,by omega,aaf.refl _,RwT.E _,hb,aac.refl _,by omega,by omega,⟨0,Nat.zero_le _,aac.ik rfl⟩,λi hi=>⟨λhlt=> ?_,λhge=> ?_⟩⟩
 ·have hi':i<(ofP L).length:=by omega
  have hw':i<(ahi b).length:=by omega
  have q1:toQ ((ahi b).getD i rs0).1=((ofP L).getD i sq0).1:=congrArg Prod.fst (hAt i hi');have q2:toQ ((ahi b).getD i rs0).2=((ofP L).getD i sq0).2:=congrArg Prod.snd (hAt i hi');have o:=T.so.ok _ (gdS hw');have z:=T.z _ (gdS hw');have o1:(((ahi b).getD i rs0).1.2.2-(0+1)).NonNeg:=o.1;have o2:(((ahi b).getD i rs0).2.2.2-(0+1)).NonNeg:=o.2;rw[q1,q2];simp only[beq_self_eq_true,Bool.not_true,Bool.false_eq_true,false_implies,true_and,forall_const];refine⟨λhp=> ?_,λhp=> ?_⟩
  ·have hw:IntKind.wrap .i64 ((i:Int)-1)=((i-1:Nat):Int):=by rw[IntKind.wrap_i64]<;>omega
   simp only[hw,Int.toNat_natCast];have srt:=(anp L).1;have lt:agA ((ofP L).getD (i-1) sq0) ((ofP L).getD i sq0):=by
    have:=List.pairwise_iff_getElem.1 srt (i-1) i (by omega) hi' (by omega);rw[aoo (by omega),aoo hi'];exact this
   have lt1:aa5 ((ofP L).getD (i-1) sq0) ((ofP L).getD i sq0)<0:=(ac5 _ _).2 lt;have lt2:¬ aa5 ((ofP L).getD i sq0) ((ofP L).getD (i-1) sq0)<0:=λh=>aa0 _ (abc lt ((ac5 _ _).1 h));simp only[lt1,lt2,decide_true,Bool.not_true,Bool.false_eq_true,false_implies,true_and,forall_const,not_false_eq_true];(repeat' apply And.intro)<;>first
    |omega
    |exact o1
    |exact o2
    |exact z.1
    |exact z.2
    |exact⟨i+1,by omega,by omega,aac.ik (big i hi')⟩
  ·(repeat' apply And.intro)<;>first
    |omega
    |exact o1
    |exact o2
    |exact z.1
    |exact z.2
    |exact⟨i+1,by omega,by omega,aac.ik (big i hi')⟩
 ·exact aac.tt rfl
def ay7:abF
 |[.o (.s false [.row 6 n e])]=>some (.s false [.v (.bool true)],[∀ i,i<n->aan (e i) (pqE (pqL n e) i),∀ p∈pqL n e,p.ok])
 |_=>none
set_option maxRecDepth 100000 in
theorem axk (B:Nat):aai Tryz.prog False B 6 (aaF ay7):=by
 refine aam (c:=Tryz.f6.body.getD .skip) (aau ax4) (by kernel_rfl) Tryz.func6 (by kernel_rfl) (by kernel_rfl) ?_ B;intro pvs av ps h hp;unfold ay7 at h;split at h
 ·rename_i n e;cases h;obtain⟨h1,h2,_⟩:=hp;exact⟨[.s false [.row 6 (pqL n e).length (pqE (pqL n e))]],aAh (pqL n e),aaj.cons (aac.one (CLe.rowC (an2 n e).symm h1 λ_ _=>rfl)) aaj.nil,by rw[Tryz.ntmps6];simp,aqU _ h2⟩
 ·cases h
end Go.Proofs.YtcmplpkmfbhpdaaGreat
namespace Go.Proofs.YtcmplpkmfbhpdaaGreat
open Go Go.ChangeShapes Go.WideShapes Go.ChangeAt Go.RowKit
set_option maxRecDepth 100000 in
theorem aeF (os:Os) (started:os.Started) (H:Type) (enc:TypeId × Value->H) :
  ReturnsInHanded {} Tryz.checked os 6 .any (Rows.splitPiecesSpec.pre6 enc Tryz.prog Tryz.f6 Rows.splitPiecesRow.domain false) (Rows.splitPiecesSpec.post enc Tryz.prog Tryz.f6 false true false false):=by
 refine returnsInHanded_of_change (C:=Tryz.checked) Tryz.own started (by kernel_rfl) Tryz.func6
  (ChangeSpec.witness6 (enc:=enc) (C:=Tryz.checked) false ⟨#[],#[.slice none 0 0],[]⟩ 8 (by kernel_rfl) (by kernel_rfl) (by kernel_rfl) (by kernel_rfl)) ?_
 intro W base args ds gs before hval0 hW hcnd _;have hval:∀ (j:Nat) t v,Tryz.f6.params[j]? =some t->args[j]? =some v->Value.okWide Tryz.prog W .any base t v:=hval0;have hW':=hW;obtain⟨p,q,hA0,hV,rfl,hfz,hnd⟩:=hW;have hA:DataW.TrodAll enc Tryz.prog W 0 (λ_=>true) true Tryz.f6.params.toList args.toList ds p:=hA0;rw[Tryz.params6] at hA hval;obtain⟨v0,d0,rfl,rfl,h0⟩:=trodAll_one hA;obtain⟨rfl,rfl⟩:=trodVars_none hV;obtain⟨l,hP,hc⟩:=aqY (hval 0 29 v0 rfl rfl) h0;clear hA0 hval0;have hrun:aaF ay7 (λ_=>none) [.s false [.row 6 l.length (pqE l)]] 0=some { val:=some (.s false [.v (.bool true)]),ps:=[∀ i,i<l.length->aan (pqE l i) (pqE (pqL l.length (pqE l)) i),∀ p∈pqL l.length (pqE l),p.ok] } :=rfl;refine (avC (axk 0) (w:=W) (vs:=[v0]) (F:=λg=>g<W.heap.size) (G:=λ_=>⟨undef,λ_=>False⟩) hrun ⟨λ_ _=>by rw[atk];exact aan.refl _,by rw[atk];exact hP.2.1,trivial⟩ rfl (λ_ h=>h) ⟨rfl,λi av v h1 h2=> ?_⟩).mono λe W' ⟨he,hb⟩=> ?_
 ·match i,h1,h2 with
  |0,h1,h2=>cases h1;cases h2;exact axi hc
 ·subst he;exact⟨_,rfl,ao4 hW' hb rfl rfl rfl (by kernel_rfl)⟩
theorem splitPieces_holds:Rows.SplitPiecesSaid:=
 OpenClaim.holds_of_wide 6 Tryz.f6 rfl rfl rfl rfl rfl rfl rfl ⟨rfl,rfl,rfl,rfl,rfl⟩ rfl rfl rfl rfl rfl (by kernel_rfl) Tryz.func6 (by kernel_rfl)
  (of_decide_eq_true (by kernel_rfl)) (by unfold Func.isWrapper;first | (rw[if_pos (by decide +kernel)];kernel_rfl) | (rw[if_neg (by decide +kernel)];exact⟨rfl,rfl⟩))
  (λos started H enc _=>aeF os started H enc)
#print axioms splitPieces_holds
end Go.Proofs.YtcmplpkmfbhpdaaGreat
