/-
  law 14's examples. (Printed by gen_kna.py.)
-/
import Derived.Test.YtmagoiniahpofaaGreatSpZ
import Derived.Test.YtmagoiniahpofaaGreatTxY
import Derived.Test.YtmagoiniahpofaaGreatSyD
namespace Go.Proofs.YtmagoiniahpofaaGreat
open Go Go.RowKit
def gGr:List (Nat × Run):=[(45,runC gridS)]
theorem gGr_ok:∀ p∈gGr,∀ B,RunOK Tryz.prog False B p.1 p.2:=ctx_cons grid_ok fun p hp=>by cases hp
def gq (a b c d:Int):Sq:=(((a:Rat),(b:Rat)),((c:Rat),(d:Rat)))
def kA:List Sq:=[gq 0 0 4 4,gq 0 4 4 0]
def kB:List Sq:=[gq 0 0 4 0,gq 6 0 2 0]
theorem lgr_vc (a b c d:Int):vc Tryz.prog (lk gGr) Tryz.f21.ntmps [] (Tryz.f21.body.getD .skip) ⟨entryS [.s false [.v (.int .i64 a)],.s false [.v (.int .i64 b)],.s false [.v (.int .i64 c)],.s false [.v (.int .i64 d)]] 0,[]⟩ (retVC Tryz.prog Tryz.f21.results.toList (.s true (sqC (gq a b c d) 3)))=((I64s a∧I64s b)∧(I64s c∧I64s d)∧AVle (AV.s true (qsC [((↑a:Rat),3),((↑b:Rat),3),((↑c:Rat),3),((↑d:Rat),3)])) (AV.s true (qsC [(Prod.fst ((↑a:Rat),(↑b:Rat)),3),(Prod.snd ((↑a:Rat),(↑b:Rat)),3),(Prod.fst ((↑c:Rat),(↑d:Rat)),3),(Prod.snd ((↑c:Rat),(↑d:Rat)),3)]))):=by kernel_rfl
def lgrS:Spec
 |[.i a,.i b,.i c,.i d]=>some (.s true (sqC (gq a b c d) 3),[(I64s a∧I64s b)∧I64s c∧I64s d])
 |_=>none
theorem lgr_ok (B:Nat):RunOK Tryz.prog False B 21 (runC lgrS):=by
 refine fn_specR (c:=Tryz.f21.body.getD .skip) (ctx_ok gGr_ok) (by kernel_rfl) Tryz.func21 (by kernel_rfl) (by kernel_rfl) ?_ B
 intro pvs av ps h hp
 unfold lgrS at h
 split at h
 ·rename_i a b c d
  cases h
  obtain⟨⟨h1,h2,h3⟩,-⟩:=hp
  refine⟨_,[],AvsLe.refl _,by rw[Tryz.ntmps21];simp,?_⟩
  have e:[Pv.i a,.i b,.i c,.i d].map Pv.av=[.s false [.v (.int .i64 a)],.s false [.v (.int .i64 b)],.s false [.v (.int .i64 c)],.s false [.v (.int .i64 d)]]:=rfl
  rw[e,lgr_vc]
  exact⟨h1,⟨h2,h3⟩,AVle.refl _⟩
 ·cases h
noncomputable def gKn:List (Nat × Run):=[(21,runC lgrS),(5,readO ofC),(22,ptxC)]
theorem gKn_ok:∀ p∈gKn,∀ B,RunOK Tryz.prog False B p.1 p.2:=ctx_cons lgr_ok (ctx_cons (readO_ok ofC_ok) (ctx_cons (ptxC_ok False) fun p hp=>by cases hp))
theorem kn_vc  : vc Tryz.prog (lk gKn) Tryz.f6.ntmps [] (Tryz.f6.body.getD .skip) ⟨entryS [] 0,[]⟩ (retVC Tryz.prog Tryz.f6.results.toList (.s false [.v (.bool true)]))=(let k8:=AV.s false [Cell.v (Value.bool true)];let k12:=(1:Int);let k13:=(4:Int);let k14:=(0:Int);let k15:=AV.s false [Cell.f];let k17:=ofP (kA);let k18:=(↑k13:Rat);let k24:=ofP (kB);let k0:=List.getD k17 1 sq0;let k1:=ByteArray.toList (ptT (Prod.fst (Prod.fst k0),Prod.snd (Prod.fst k0))) == ByteArray.toList { data:= #[(48:UInt8),(32:UInt8),(52:UInt8)] };let k2:=ByteArray.toList (ptT (Prod.fst (Prod.snd k0),Prod.snd (Prod.snd k0))) == ByteArray.toList { data:= #[(50:UInt8),(32:UInt8),(50:UInt8)] };let k3:=(if 20000<2 then (2:Int) else k14) == k14;let k5:=(↑(List.length k17):Int);let k6:=ptC (Prod.fst (Prod.fst k0),Prod.snd (Prod.fst k0)) 69;let k7:=(↑k14:Rat);let k9:=List.getD k24 1 sq0;let k10:=ptC (Prod.fst (Prod.snd k0),Prod.snd (Prod.snd k0)) 69;let k11:=(↑(List.length k24):Int);let k16:=ptC (Prod.fst k0) 69;let k19:=ptC (Prod.snd k0) 69;let k20:=k5 == k13;let k21:=k11 == (3:Int);let k22:=ptC (Prod.fst (Prod.fst k9),Prod.snd (Prod.fst k9)) 69;let k23:=(Prod.fst (Prod.snd k9),Prod.snd (Prod.snd k9));let k25:=((↑(6:Int):Rat),k7);let k26:=((↑(2:Int):Rat),k7);let k27:=(Prod.fst (k18,k7),3);let k28:=(Prod.snd (k18,k7),3);let k29:=(Prod.fst (k7,k7),3);let k30:=(Prod.snd (k7,k7),3);let k31:=ptC (Prod.fst k9) 69;let k4:=ByteArray.toList (ptT (Prod.fst (Prod.fst k9),Prod.snd (Prod.fst k9))) == ByteArray.toList { data:= #[(50:UInt8),(32:UInt8),(48:UInt8)] };((I64s k14∧I64s k14)∧I64s k13∧I64s k13)∧   ((I64s k14∧I64s k13)∧I64s k13∧I64s k14)∧     (∀ (i:Nat),i<List.length k17→(List.all (sqC (List.getD k17 i sq0) 69) fun (a:Cell)=>Cell.flat a)=true)∧       (∀ (i:Nat),i<2→CsLe (List.getD [(qsC [k29,k30,(Prod.fst (k18,k18),3),(Prod.snd (k18,k18),3)]),(qsC [(Prod.fst (k7,k18),3),(Prod.snd (k7,k18),3),k27,k28])] i []) (sqC (List.getD (kA) i sq0) 3))∧         3≤1500∧           ((I64s k14∧I64s k14)∧I64s k13∧I64s k14)∧             ((I64s (6:Int)∧I64s k14)∧I64s (2:Int)∧I64s k14)∧               (∀ (i:Nat),i<List.length k24→(List.all (sqC (List.getD k24 i sq0) 69) fun (a:Cell)=>Cell.flat a)=true)∧                 (∀ (i:Nat),i<2→CsLe (List.getD [(qsC [k29,k30,k27,k28]),(qsC [(Prod.fst k25,3),(Prod.snd k25,3),(Prod.fst k26,3),(Prod.snd k26,3)])] i []) (sqC (List.getD (kB) i sq0) 3))∧                   3≤1500∧                     (k3=true→                         (k20=true→                             (k1=true→                                 (k2=true→(k3=true→(k21=true→(k4=true→k3=true∧k20=true∧(k14≤k12∧k12<k5)∧1<List.length k17∧CsLe k16 k6∧69≤50000∧k1=true∧(k14≤k12∧k12<k5)∧1<List.length k17∧CsLe k19 k10∧69≤50000∧k2=true∧k3=true∧k21=true∧(k14≤k12∧k12<k11)∧1<List.length k24∧CsLe k31 k22∧69≤50000∧k4=true∧(k14≤k12∧k12<k11)∧1<List.length k24∧CsLe (ptC (Prod.snd k9) 69) (ptC k23 69)∧69≤50000∧AVle (AV.s false [Cell.v (Value.bool (ByteArray.toList (ptT k23) == ByteArray.toList { data:= #[(52:UInt8),(32:UInt8),(48:UInt8)] }))]) k8)∧(k4=false→k3=true∧k20=true∧(k14≤k12∧k12<k5)∧1<List.length k17∧CsLe k16 k6∧69≤50000∧k1=true∧(k14≤k12∧k12<k5)∧1<List.length k17∧CsLe k19 k10∧69≤50000∧k2=true∧k3=true∧k21=true∧(k14≤k12∧k12<k11)∧1<List.length k24∧CsLe k31 k22∧69≤50000∧k4=false∧AVle k15 k8))∧(k21=false→k3=true∧k20=true∧(k14≤k12∧k12<k5)∧1<List.length k17∧CsLe k16 k6∧69≤50000∧k1=true∧(k14≤k12∧k12<k5)∧1<List.length k17∧CsLe k19 k10∧69≤50000∧k2=true∧k3=true∧k21=false∧AVle k15 k8))∧(k3=false→k3=true∧k20=true∧(k14≤k12∧k12<k5)∧1<List.length k17∧CsLe k16 k6∧69≤50000∧k1=true∧(k14≤k12∧k12<k5)∧1<List.length k17∧CsLe k19 k10∧69≤50000∧k2=true∧k3=false∧AVle k15 k8))∧                                   (k2=false→k3=true∧k20=true∧(k14≤k12∧k12<k5)∧1<List.length k17∧CsLe k16 k6∧69≤50000∧k1=true∧(k14≤k12∧k12<k5)∧1<List.length k17∧CsLe k19 k10∧69≤50000∧k2=false∧AVle k15 k8))∧                               (k1=false→k3=true∧k20=true∧(k14≤k12∧k12<k5)∧1<List.length k17∧CsLe k16 k6∧69≤50000∧k1=false∧AVle k15 k8))∧                           (k20=false→k3=true∧k20=false∧AVle k15 k8))∧                       (k3=false→k3=false∧AVle k15 k8)):=by kernel_rfl
end Go.Proofs.YtmagoiniahpofaaGreat
namespace Go.Proofs.YtmagoiniahpofaaGreat
open Go Go.RowKit
instance (p q:Pq):Decidable (ltPq p q):=by unfold ltPq;infer_instance
instance (t u:Sq):Decidable (ltSq t u):=by unfold ltSq;infer_instance
instance (c:List Pq) (t:Sq):Decidable (PieceQ c t):=by unfold PieceQ;infer_instance
def cutL (l:List Sq) (i:Nat):List Pq:=(l.getD i sq0).1::(l.getD i sq0).2::(List.range l.length).flatMap fun k=>if k=i then [] else meetQ (l.getD i sq0) (l.getD k sq0)
theorem cutL_mem (l:List Sq) (i:Nat) (p:Pq):p∈cutL l i↔CutS l i p:=by
 simp only[cutL,List.mem_cons,List.mem_flatMap,List.mem_range]
 refine or_congr Iff.rfl (or_congr Iff.rfl ⟨?_,?_⟩)
 ·rintro⟨k,h1,h2⟩
  split at h2
  ·cases h2
  ·rename_i e;exact⟨k,h1,e,h2⟩
 ·rintro⟨k,h1,e,h2⟩
  exact⟨k,h1,by rw[if_neg e];exact h2⟩
def OfChk (l O:List Sq):Prop:=O.Pairwise ltSq∧(∀ t∈O,∃ j∈List.range l.length,PieceQ (cutL l j) t)∧∀ j∈List.range l.length,∀ p∈cutL l j,∀ q∈cutL l j,PieceQ (cutL l j) (p,q)→(p,q)∈O
instance (l O:List Sq):Decidable (OfChk l O):=by unfold OfChk;infer_instance
theorem of_chk {l O:List Sq} (hl:l.length≤20000) (h:OfChk l O):ofP l=O:=by
 refine ofP_eq ⟨h.1,fun t=> ?_⟩
 rw[IsPc_iff (C:=cutL l) fun i _ p=>cutL_mem l i p]
 constructor
 ·intro ht
  obtain⟨j,h1,h2⟩:=h.2.1 t ht
  exact⟨hl,j,List.mem_range.1 h1,h2⟩
 ·rintro⟨_,j,h1,h2⟩
  exact h.2.2 j (List.mem_range.2 h1) t.1 h2.1 t.2 h2.2.1 h2
theorem ofA:ofP kA=[((0,0),(2,2)),((0,4),(2,2)),((2,2),(4,0)),((2,2),(4,4))]:=of_chk (by decide) (by decide +kernel)
theorem ofB:ofP kB=[((0,0),(2,0)),((2,0),(4,0)),((4,0),(6,0))]:=of_chk (by decide) (by decide +kernel)
theorem decT_digit {d:Nat} (h0:0<d) (h:d<10):decT d=ByteArray.empty.push (UInt8.ofNat (48+d)):=by
 have e1:d/10=0:=by omega
 have e2:d%10=d:=by omega
 have e:decL d=[((48+d:Nat):Int)]:=by rw[decL_pos (by omega),e1,e2,decL_zero]
 unfold decT
 rw[if_neg (by omega),e]
 rfl
theorem ratT_0:ratT 0=⟨#[48]⟩:=by
 unfold ratT zedT
 rw[if_pos (by decide +kernel),if_neg (by decide +kernel)]
 have:(0:Rat).num.natAbs=0:=by decide +kernel
 rw[this]
 rfl
theorem ratT_2:ratT 2=⟨#[50]⟩:=by
 unfold ratT zedT
 rw[if_pos (by decide +kernel),if_neg (by decide +kernel)]
 have:(2:Rat).num.natAbs=2:=by decide +kernel
 rw[this,decT_digit (by decide) (by decide)]
 rfl
theorem ratT_4:ratT 4=⟨#[52]⟩:=by
 unfold ratT zedT
 rw[if_pos (by decide +kernel),if_neg (by decide +kernel)]
 have:(4:Rat).num.natAbs=4:=by decide +kernel
 rw[this,decT_digit (by decide) (by decide)]
 rfl
theorem ptT_04:ptT (0,4)=⟨#[48,32,52]⟩:=by unfold ptT;rw[ratT_0,ratT_4];rfl
theorem ptT_22:ptT (2,2)=⟨#[50,32,50]⟩:=by unfold ptT;rw[ratT_2];rfl
theorem ptT_20:ptT (2,0)=⟨#[50,32,48]⟩:=by unfold ptT;rw[ratT_2,ratT_0];rfl
theorem ptT_40:ptT (4,0)=⟨#[52,32,48]⟩:=by unfold ptT;rw[ratT_4,ratT_0];rfl
set_option maxRecDepth 100000 in
theorem kn_true:vc Tryz.prog (lk gKn) Tryz.f6.ntmps [] (Tryz.f6.body.getD .skip) ⟨entryS [] 0,[]⟩ (retVC Tryz.prog Tryz.f6.results.toList (.s false [.v (.bool true)])):=by
 rw[kn_vc]
 have K0:List.getD (ofP kA) 1 sq0=((0,4),(2,2)):=by rw[ofA];rfl
 have K9:List.getD (ofP kB) 1 sq0=((2,0),(4,0)):=by rw[ofB];rfl
 have lA:(ofP kA).length=4:=by rw[ofA];rfl
 have lB:(ofP kB).length=3:=by rw[ofB];rfl
 have q0:((0:Nat):Rat)=0:=rfl
 have i1:I64s 0:=by unfold I64s;omega
 have i2:I64s 4:=by unfold I64s;omega
 have i3:I64s 6:=by unfold I64s;omega
 have i4:I64s 2:=by unfold I64s;omega
 have e1:(((4:Nat):Int) == 4)=true:=rfl
 have e2:(((3:Nat):Int) == 3)=true:=rfl
 have e3:((if 20000<2 then (2:Int) else 0) == 0)=true:=rfl
 simp only[K0,K9,lA,lB,ptT_04,ptT_22,ptT_20,ptT_40,i1,i2,i3,i4,e1,e2,e3,beq_self_eq_true,cs_refl,true_and,and_true,Bool.true_eq_false,false_implies,forall_const]
 refine⟨fun i _=>rfl,fun i hi=> ?_,by omega,fun i _=>rfl,fun i hi=> ?_,by omega,by omega,by omega,by omega,by omega,by omega,by omega,by omega,by omega,by omega,by omega,by omega,by omega,AVle.refl _⟩
 ·match i,hi with
  |0,_=>exact CsLe.refl _
  |1,_=>exact CsLe.refl _
 ·match i,hi with
  |0,_=>exact CsLe.refl _
  |1,_=>exact CsLe.refl _
def kn14S:Spec
 |[]=>some (.s false [.v (.bool true)],[])
 |_=>none
set_option maxRecDepth 100000 in
theorem kn14_ok (B:Nat):RunOK Tryz.prog False B 6 (runC kn14S):=by
 refine fn_specR (c:=Tryz.f6.body.getD .skip) (ctx_ok gKn_ok) (by kernel_rfl) Tryz.func6 (by kernel_rfl) (by kernel_rfl) ?_ B
 intro pvs av ps h hp
 unfold kn14S at h
 split at h
 ·cases h
  exact⟨[],[],AvsLe.refl _,Nat.zero_le _,kn_true⟩
 ·cases h
end Go.Proofs.YtmagoiniahpofaaGreat
