import Derived.Test.YtcmplpkmfbhpdaaGreatSpZ
import Derived.Test.YtcmplpkmfbhpdaaGreatTxY
import Derived.Test.YtcmplpkmfbhpdaaGreatSyD
namespace Go.Proofs.YtcmplpkmfbhpdaaGreat
open Go Go.RowKit
def gGr:List (Nat × Run):=[(108,aaF atz)]
theorem ayd:∀ p∈gGr,∀ B,aai Tryz.prog False B p.1 p.2:=aad avh λp hp=>by cases hp
def gq (a b c d:Int):Sq:=(((a:Rat),(b:Rat)),((c:Rat),(d:Rat)))
def kA:List Sq:=[gq 0 0 4 4,gq 0 4 4 0]
def kB:List Sq:=[gq 0 0 4 0,gq 6 0 2 0]
theorem axI (a b c d:Int):vc Tryz.prog (lk gGr) Tryz.f54.ntmps [] (Tryz.f54.body.getD .skip) ⟨aao [.s false [.v (.int .i64 a)],.s false [.v (.int .i64 b)],.s false [.v (.int .i64 c)],.s false [.v (.int .i64 d)]] 0,[]⟩ (aaH Tryz.prog Tryz.f54.results.toList (.s true (sqC (gq a b c d) 3)))=((abB a/\abB b)/\(abB c/\abB d)/\aac (AV.s true (qsC [((↑a:Rat),3),((↑b:Rat),3),((↑c:Rat),3),((↑d:Rat),3)])) (AV.s true (qsC [(((↑a:Rat),(↑b:Rat)).1,3),(((↑a:Rat),(↑b:Rat)).2,3),(((↑c:Rat),(↑d:Rat)).1,3),(((↑c:Rat),(↑d:Rat)).2,3)]))):=by kernel_rfl
def azg:abF
 |[.i a,.i b,.i c,.i d]=>some (.s true (sqC (gq a b c d) 3),[(abB a/\abB b)/\abB c/\abB d])
 |_=>none
theorem axJ (B:Nat):aai Tryz.prog False B 54 (aaF azg):=by
 refine aam (c:=Tryz.f54.body.getD .skip) (aau ayd) (by kernel_rfl) Tryz.func54 (by kernel_rfl) (by kernel_rfl) ?_ B;intro pvs av ps h hp;unfold azg at h;split at h
 ·rename_i a b c d;cases h;obtain⟨⟨h1,h2,h3⟩,-⟩:=hp;refine⟨_,[],aaj.refl _,by rw[Tryz.ntmps54];simp,?_⟩;have e:[Pv.i a,.i b,.i c,.i d].map Pv.av=[.s false [.v (.int .i64 a)],.s false [.v (.int .i64 b)],.s false [.v (.int .i64 c)],.s false [.v (.int .i64 d)]]:=rfl;rw[e,axI];exact⟨h1,⟨h2,h3⟩,aac.refl _⟩
 ·cases h
noncomputable def gKn:List (Nat × Run):=[(54,aaF azg),(11,ap4 ofC),(24,ayA)]
theorem ax9:∀ p∈gKn,∀ B,aai Tryz.prog False B p.1 p.2:=aad axJ (aad (alg aso) (aad (an1 False) λp hp=>by cases hp))
abbrev aAm :Prop:=vc Tryz.prog (lk gKn) Tryz.f12.ntmps [] (Tryz.f12.body.getD .skip) ⟨aao [] 0,[]⟩ (aaH Tryz.prog Tryz.f12.results.toList (.s false [.v (.bool true)]))
theorem azQ :aAm=(let k8:=AV.s false [aaa.v (Value.bool true)];let k12:=(1:Int);let k13:=(4:Int);let k14:=(0:Int);let k15:=AV.s false [aaa.f];let k17:=ofP (kA);let k18:=(↑k13:Rat);let k24:=ofP (kB);let k0:=List.getD k17 1 sq0;let k1:=ByteArray.toList (ptT (k0.1.1,k0.1.2)) == ByteArray.toList { data:=#[(48:UInt8),(32:UInt8),(52:UInt8)] };let k2:=ByteArray.toList (ptT (k0.2.1,k0.2.2)) == ByteArray.toList { data:=#[(50:UInt8),(32:UInt8),(50:UInt8)] };let k3:=(if 20000<2 then (2:Int) else k14) == k14;let k5:=(↑k17.length:Int);let k6:=ptC (k0.1.1,k0.1.2) 69;let k7:=(↑k14:Rat);let k9:=List.getD k24 1 sq0;let k10:=ptC (k0.2.1,k0.2.2) 69;let k11:=(↑k24.length:Int);let k16:=ptC k0.1 69;let k19:=ptC k0.2 69;let k20:=k5 == k13;let k21:=k11 == (3:Int);let k22:=ptC (k9.1.1,k9.1.2) 69;let k23:=(k9.2.1,k9.2.2);let k25:=((↑(6:Int):Rat),k7);let k26:=((↑(2:Int):Rat),k7);let k27:=((k18,k7).1,3);let k28:=((k18,k7).2,3);let k29:=((k7,k7).1,3);let k30:=((k7,k7).2,3);let k31:=ptC k9.1 69;let k4:=ByteArray.toList (ptT (k9.1.1,k9.1.2)) == ByteArray.toList { data:=#[(50:UInt8),(32:UInt8),(48:UInt8)] };let p1:=λ(Z:Prop)=>k2=true/\k3=true/\k21=true/\(k14<=k12/\k12<k11)/\1<k24.length/\aan k31 k22/\69<=50000/\Z;let p2:=aac k15 k8;let p3:=λ(Z:Prop)=>k3=true/\k20=true/\(k14<=k12/\k12<k5)/\1<k17.length/\aan k16 k6/\69<=50000/\Z;let p4:=abB k14;let p0:=λ(Z:Prop)=>p3 (k1=true/\(k14<=k12/\k12<k5)/\1<k17.length/\aan k19 k10/\69<=50000/\Z);((abB k14/\p4)/\abB k13/\abB k13)/\  ((abB k14/\abB k13)/\abB k13/\p4)/\    (∀ (i:Nat),i<k17.length->(List.all (sqC (List.getD k17 i sq0) 69) λ(a:aaa)=>aaa.flat a)=true)/\      (∀ (i:Nat),i<2->aan (List.getD [(qsC [k29,k30,((k18,k18).1,3),((k18,k18).2,3)]),(qsC [((k7,k18).1,3),((k7,k18).2,3),k27,k28])] i []) (sqC (List.getD (kA) i sq0) 3))/\        3<=1500/\          2<=20/\            ((abB k14/\p4)/\abB k13/\p4)/\              ((abB (6:Int)/\p4)/\abB (2:Int)/\p4)/\                (∀ (i:Nat),i<k24.length->(List.all (sqC (List.getD k24 i sq0) 69) λ(a:aaa)=>aaa.flat a)=true)/\                  (∀ (i:Nat),i<2->aan (List.getD [(qsC [k29,k30,k27,k28]),(qsC [(k25.1,3),(k25.2,3),(k26.1,3),(k26.2,3)])] i []) (sqC (List.getD (kB) i sq0) 3))/\                    3<=1500/\                      2<=20/\                        (k3=true->                            (k20=true->                                (k1=true->                                    (k2=true->(k3=true->(k21=true->(k4=true->p0 (p1 (k4=true/\(k14<=k12/\k12<k11)/\1<k24.length/\aan (ptC k9.2 69) (ptC k23 69)/\69<=50000/\aac (AV.s false [aaa.v (Value.bool (ByteArray.toList (ptT k23) == ByteArray.toList { data:=#[(52:UInt8),(32:UInt8),(48:UInt8)] }))]) k8)))/\(k4=false->p0 (p1 (k4=false/\p2))))/\(k21=false->p0 (k2=true/\k3=true/\k21=false/\p2)))/\(k3=false->p0 (k2=true/\k3=false/\p2)))/\                                      (k2=false->p0 (k2=false/\p2)))/\                                  (k1=false->p3 (k1=false/\p2)))/\                              (k20=false->k3=true/\k20=false/\p2))/\                          (k3=false->k3=false/\p2)):=by kernel_rfl
end Go.Proofs.YtcmplpkmfbhpdaaGreat
namespace Go.Proofs.YtcmplpkmfbhpdaaGreat
open Go Go.RowKit
instance (p q:Pq):Decidable (ab7 p q):=by unfold ab7;infer_instance
instance (t u:Sq):Decidable (agA t u):=by unfold agA;infer_instance
instance (c:List Pq) (t:Sq):Decidable (abX c t):=by unfold abX;infer_instance
def aju (l:List Sq) (i:Nat):List Pq:=(l.getD i sq0).1::(l.getD i sq0).2::(List.range l.length).flatMap λk=>if k=i then [] else acM (l.getD i sq0) (l.getD k sq0)
theorem ah4 (l:List Sq) (i:Nat) (p:Pq):p∈aju l i↔apW l i p:=by
 simp only[aju,List.mem_cons,List.mem_flatMap,List.mem_range];refine or_congr Iff.rfl (or_congr Iff.rfl ⟨?_,?_⟩)
 ·rintro⟨k,h1,h2⟩;split at h2
  ·cases h2
  ·rename_i e;exact⟨k,h1,e,h2⟩
 ·rintro⟨k,h1,e,h2⟩;exact⟨k,h1,by rw[if_neg e];exact h2⟩
def atK (l O:List Sq):Prop:=O.Pairwise agA/\(∀ t∈O,∃ j∈List.range l.length,abX (aju l j) t)/\∀ j∈List.range l.length,∀ p∈aju l j,∀ q∈aju l j,abX (aju l j) (p,q)->(p,q)∈O
instance (l O:List Sq):Decidable (atK l O):=by unfold atK;infer_instance
theorem asn {l O:List Sq} (hl:l.length<=20000) (h:atK l O):ofP l=O:=by
 refine aiu ⟨h.1,λt=> ?_⟩;rw[ah7 (C:=aju l) λi _ p=>ah4 l i p];constructor
 ·intro ht;obtain⟨j,h1,h2⟩:=h.2.1 t ht;exact⟨hl,j,List.mem_range.1 h1,h2⟩
 ·rintro⟨_,j,h1,h2⟩;exact h.2.2 j (List.mem_range.2 h1) t.1 h2.1 t.2 h2.2.1 h2
theorem ofA:ofP kA=[((0,0),(2,2)),((0,4),(2,2)),((2,2),(4,0)),((2,2),(4,4))]:=asn (by decide) (by decide +kernel)
theorem ofB:ofP kB=[((0,0),(2,0)),((2,0),(4,0)),((4,0),(6,0))]:=asn (by decide) (by decide +kernel)
theorem aha {d:Nat} (h0:0<d) (h:d<10):ad8 d=ByteArray.empty.push (UInt8.ofNat (48+d)):=by
 have e1:d/10=0:=by omega
 have e2:d%10=d:=by omega
 have e:acI d=[((48+d:Nat):Int)]:=by rw[ah3 (by omega),e1,e2,aeA]
 unfold ad8;rw[if_neg (by omega),e];rfl
theorem anm:adc 0=⟨#[48]⟩:=by
 unfold adc adg;rw[if_pos (by decide +kernel),if_neg (by decide +kernel)];have:(0:Rat).num.natAbs=0:=by decide +kernel
 rw[this];rfl
theorem asi:adc 2=⟨#[50]⟩:=by
 unfold adc adg;rw[if_pos (by decide +kernel),if_neg (by decide +kernel)];have:(2:Rat).num.natAbs=2:=by decide +kernel
 rw[this,aha (by decide) (by decide)];rfl
theorem ash:adc 4=⟨#[52]⟩:=by
 unfold adc adg;rw[if_pos (by decide +kernel),if_neg (by decide +kernel)];have:(4:Rat).num.natAbs=4:=by decide +kernel
 rw[this,aha (by decide) (by decide)];rfl
theorem axg:ptT (0,4)=⟨#[48,32,52]⟩:=by unfold ptT;rw[anm,ash];rfl
theorem axe:ptT (2,2)=⟨#[50,32,50]⟩:=by unfold ptT;rw[asi];rfl
theorem axf:ptT (2,0)=⟨#[50,32,48]⟩:=by unfold ptT;rw[asi,anm];rfl
theorem axd:ptT (4,0)=⟨#[52,32,48]⟩:=by unfold ptT;rw[ash,anm];rfl
set_option maxRecDepth 100000 in
theorem au2:aAm:=by
 rw[azQ];have K0:List.getD (ofP kA) 1 sq0=((0,4),(2,2)):=by rw[ofA];rfl
 have K9:List.getD (ofP kB) 1 sq0=((2,0),(4,0)):=by rw[ofB];rfl
 have lA:(ofP kA).length=4:=by rw[ofA];rfl
 have lB:(ofP kB).length=3:=by rw[ofB];rfl
 have q0:((0:Nat):Rat)=0:=rfl;have i1:abB 0:=by unfold abB;omega
 have i2:abB 4:=by unfold abB;omega
 have i3:abB 6:=by unfold abB;omega
 have i4:abB 2:=by unfold abB;omega
 have e1:(((4:Nat):Int) == 4)=true:=rfl;have e2:(((3:Nat):Int) == 3)=true:=rfl;have e3:((if 20000<2 then (2:Int) else 0) == 0)=true:=rfl;simp only[K0,K9,lA,lB,axg,axe,axf,axd,i1,i2,i3,i4,e1,e2,e3,beq_self_eq_true,aaZ,true_and,and_true,Bool.true_eq_false,false_implies,forall_const];refine⟨λi _=>rfl,λi hi=> ?_,by omega,by omega,λi _=>rfl,λi hi=> ?_,by omega,by omega,by omega,by omega,by omega,by omega,by omega,by omega,by omega,by omega,by omega,by omega,by omega,by omega,aac.refl _⟩
 ·match i,hi with
  |0,_=>exact aan.refl _
  |1,_=>exact aan.refl _
 ·match i,hi with
  |0,_=>exact aan.refl _
  |1,_=>exact aan.refl _
def atx:abF
 |[]=>some (.s false [.v (.bool true)],[])
 |_=>none
set_option maxRecDepth 100000 in
theorem au3 (B:Nat):aai Tryz.prog False B 12 (aaF atx):=by
 refine aam (c:=Tryz.f12.body.getD .skip) (aau ax9) (by kernel_rfl) Tryz.func12 (by kernel_rfl) (by kernel_rfl) ?_ B;intro pvs av ps h hp;unfold atx at h;split at h
 ·cases h;exact⟨[],[],aaj.refl _,Nat.zero_le _,au2⟩
 ·cases h
end Go.Proofs.YtcmplpkmfbhpdaaGreat
