/-
  Texts of numbers and of points.
-/
import Derived.Test.YtmagoiniahpofaaGreatTxB
namespace Go.Proofs.YtmagoiniahpofaaGreat
open Go Go.RowKit
theorem wrapU32 (n:Int):IntKind.u32.wrap n=n%4294967296:=by simp[IntKind.wrap,IntKind.bits,IntKind.signed]
theorem wrapU8 (n:Int):IntKind.u8.wrap n=n%256:=by simp[IntKind.wrap,IntKind.bits,IntKind.signed]
theorem decL_zero:decL 0=[]:=by rw[decL];rfl
theorem decL_pos {n:Nat} (h:n≠0):decL n=((48+n%10:Nat):Int)::decL (n/10):=by rw[decL,dif_neg h]
theorem decL_len:∀ (k n:Nat),n<10 ^ k→(decL n).length≤k
 |0,n,h=>by
  have:n=0:=by simpa using h
  subst this
  rw[decL_zero]
  exact Nat.le_refl _
 |k+1,n,h=>by
  by_cases h0:n=0
  ·subst h0
   rw[decL_zero]
   exact Nat.zero_le _
  ·rw[decL_pos h0,List.length_cons]
   have:=decL_len k (n/10) (by rw[Nat.pow_succ] at h;omega)
   omega
theorem decL_limbs {n s:Nat} (h:(limbs n).length≤s):(decL n).length≤10*s:=by
 refine decL_len _ _ ?_
 have h1:=(limbs_len n s).1 h
 refine Nat.lt_of_lt_of_le h1 ?_
 rw[Nat.pow_mul]
 exact Nat.pow_le_pow_left (by decide) s
theorem limbs_eq0 (n:Nat):(((limbs (n:Int).natAbs).length:Int) == 0)=decide (n=0):=by
 have:=limbs_nil (n:=n)
 rw[Int.natAbs_natCast]
 by_cases h:n=0
 ·rw[this.2 h];simp[h]
 ·have:(limbs n).length≠0:=fun e=>h (this.1 (List.eq_nil_of_length_eq_zero e))
  rw[decide_eq_false h,beq_eq_false_iff_ne]
  omega
theorem dec_step {y k:Nat} : (y%10 ^ (k+1))%10=y%10∧y%10 ^ (k+1)/10=(y/10)%10 ^ k∧y/10 ^ (k+1)=y/10/10 ^ k:=by
 have e:10 ^ (k+1)=10*10 ^ k:=by rw[Nat.pow_succ,Nat.mul_comm]
 rw[e]
 refine⟨Nat.mod_mul_right_mod _ _ _,?_,(Nat.div_div_eq_div_mul _ _ _).symm⟩
 rw[Nat.mod_mul_right_div_self]
theorem byt_snoc {T:TypeId} {ds:List Int} {x y:Int} (h:x=y):ABle (ABlk.row T 1 (ds.length+1) fun j=>if j<ds.length then [Cell.v (.int .u8 (ds.getD j 0))] else [[Cell.v (.int .u8 x)]].getD (j-ds.length) []) (ABlk.row T 1 (ds++[y]).length (bytE (ds++[y]))):=by
 subst h
 refine ABle.row (by simp) (fun j hj=> ?_) (fun j _=>rfl)
 show CsLe (if j<ds.length then _ else _) _
 by_cases h:j<ds.length
 ·rw[if_pos h]
  exact byt_le (by simp[List.getD,List.getElem?_append_left h])
 ·have:j=ds.length:=by omega
  subst this
  rw[if_neg h,Nat.sub_self]
  exact byt_le (by simp[List.getD])
set_option maxHeartbeats 1000000 in
set_option maxRecDepth 100000 in
theorem ntx_true (n s:Nat) (hs:s≤50000) (hl:(limbs n).length≤50000):vc Tryz.prog (lk gTx) Tryz.f100.ntmps [(5,nt1_inv n s),(9,nt2_inv n s),(1000011,pre [] [.ren 39 900])] (Tryz.f100.body.getD .skip) ⟨entryS [.s true [.z (n:Int) s 0]] 0,[]⟩ (retVC Tryz.prog Tryz.f100.results.toList (.s false [.v (.string (decT n))])):=by
 rw[ntx_vc]
 have pos:∀ y:Nat,(((limbs (y:Int).natAbs).length:Int)>0)=(y≠0):=fun y=>by
  have:=limbs_eq0 y
  by_cases h:y=0
  ·subst h;simp[limbs_zero]
  ·have h1:¬ (((limbs (y:Int).natAbs).length:Int)=0):=fun e=>by rw[e] at this;simp[h] at this
   refine propext ⟨fun _=>h,fun _=>by omega⟩
 have hd:=decL_limbs hl
 simp only[SmA,av_refl,true_and,and_true,decide_eq_true_eq,decide_eq_false_iff_not,limbs_eq0,pos]
 refine⟨fun h0=> ?_,fun h0=>⟨⟨⟨n,0,0,[]⟩,⟨rfl,Nat.le_refl _⟩,AVle.refl _,ABle.row rfl (fun i hi=>absurd hi (Nat.not_lt_zero i)) (fun i hi=>absurd hi (Nat.not_lt_zero i))⟩,?_⟩⟩
 ·subst h0
  exact AVle.refl _
 rintro⟨y,y0,i,ds⟩ ⟨h1,h2⟩
 dsimp only at h1 h2 ⊢
 refine⟨fun hy=> ?_,fun hy=> ?_⟩
 ·refine⟨by omega,hs,by omega,⟨y,y,0,ds⟩,⟨h1,h2,Nat.zero_le _,by simp,Nat.pos_of_ne_zero hy⟩,⟨⟨AVle.one (CLe.z (by simp) (Nat.le_refl _)),AVle.intN (by simp),AVle.int rfl⟩,ABle.refl _⟩,?_⟩
  rintro⟨z,z0,i,ds1⟩ ⟨k1,k2,k3,k4,k5⟩ hz
  dsimp only at k1 k2 k3 k4 k5 hz ⊢
  subst hz
  have hdl:ds1.length≤500000:=by
   have:=congrArg List.length k1
   rw[List.length_append] at this
   omega
  have next:i<9→z≠0→∃ i':TI,(i'.ds++decL i'.y=decL n∧i'.y≤n∧i'.i≤9∧i'.y*10 ^ i'.i≤i'.y0∧0<i'.y0)∧i'.y0=z0∧9-i'.i<9-i∧(AVle (AV.s false [Cell.z ((z/10 ^ (9-i):Nat):Int) s 0]) (AV.s false [Cell.z ((i'.y/10 ^ (9-i'.i):Nat):Int) s 0])∧AVle (AV.s false [Cell.v (.int .u32 (IntKind.wrap .u32 (Int.tdiv ((z%10 ^ (9-i):Nat):Int) 10)))]) (AV.s false [Cell.v (.int .u32 ((i'.y%10 ^ (9-i'.i):Nat):Int))])∧AVle (AV.s false [Cell.v (.int .i64 (IntKind.wrap .i64 ((i:Int)+1)))]) (AV.s false [Cell.v (.int .i64 (i'.i:Int))]))∧ABle (ABlk.row 5 1 (ds1.length+1) fun j=>if j<ds1.length then [Cell.v (.int .u8 (ds1.getD j 0))] else [[Cell.v (.int .u8 (IntKind.wrap .u8 (IntKind.wrap .u32 (48+Int.tmod ((z%10 ^ (9-i):Nat):Int) 10))))]].getD (j-ds1.length) []) (ABlk.row 5 1 i'.ds.length fun a=>[Cell.v (.int .u8 (i'.ds.getD a 0))]):=by
   intro hi hz
   obtain⟨k,hk⟩:∃ k,9-i=k+1:=⟨8-i,by omega⟩
   have hk':9-(i+1)=k:=by omega
   obtain⟨d1,d2,d3⟩:=dec_step (y:=z) (k:=k)
   have hlt:z%10 ^ (k+1)<1000000000:=by
    have h1:z%10 ^ (k+1)<10 ^ (k+1):=Nat.mod_lt _ (Nat.pow_pos (by decide))
    have h2:10 ^ (k+1)≤10 ^ 9:=Nat.pow_le_pow_right (by decide) (by omega)
    have h3:(10:Nat) ^ 9=1000000000:=by decide
    omega
   refine⟨⟨z/10,z0,i+1,ds1++[((48+z%10:Nat):Int)]⟩,⟨?_,?_,?_,?_,k5⟩,rfl,?_,⟨AVle.one (CLe.z ?_ (Nat.le_refl _)),AVle.intN ?_,AVle.int ?_⟩,byt_snoc ?_⟩
   ·show (ds1++[((48+z%10:Nat):Int)])++decL (z/10)=decL n
    rw[List.append_assoc,List.singleton_append,← decL_pos hz]
    exact k1
   ·show z/10≤n
    omega
   ·show i+1≤9
    omega
   ·show z/10*10 ^ (i+1)≤z0
    have e:z/10*10 ^ (i+1)=z/10*10*10 ^ i:=by rw[Nat.pow_succ,Nat.mul_assoc,Nat.mul_comm 10]
    rw[e]
    exact Nat.le_trans (Nat.mul_le_mul_right _ (Nat.div_mul_le_self _ _)) k4
   ·show 9-(i+1)<9-i
    omega
   ·show ((z/10 ^ (9-i):Nat):Int)=((z/10/10 ^ (9-(i+1)):Nat):Int)
    rw[hk,hk',d3]
   ·show IntKind.wrap .u32 (Int.tdiv ((z%10 ^ (9-i):Nat):Int) 10)=((z/10%10 ^ (9-(i+1)):Nat):Int)
    rw[hk,hk',← d2,wrapU32]
    have:Int.tdiv ((z%10 ^ (k+1):Nat):Int) 10=((z%10 ^ (k+1)/10:Nat):Int):=(Int.ofNat_tdiv _ _).symm
    rw[this]
    generalize z%10 ^ (k+1)=a at *
    omega
   ·rw[IntKind.wrap_i64]
    show _=((i+1:Nat):Int)
    omega
   ·rw[hk,wrapU32,wrapU8]
    have:Int.tmod ((z%10 ^ (k+1):Nat):Int) 10=((z%10 ^ (k+1)%10:Nat):Int):=(Int.ofNat_tmod _ _).symm
    rw[this,d1]
    omega
  have zer:z%10 ^ (9-i)=0→z/10 ^ (9-i)=0→z=0:=fun h1 h2=>by
   have:=Nat.div_add_mod z (10 ^ (9-i))
   rw[h1,h2] at this
   omega
  refine⟨fun hi9=>⟨fun hr=>⟨hr,fun hx=> ?_,fun hx=>⟨by decide,⟨by decide,by omega⟩,by decide,next (by omega) fun e=>hx (by rw[e,Nat.zero_div])⟩⟩,fun hr=>⟨hr,by decide,⟨by decide,by omega⟩,by decide,next (by omega) fun e=> ?_⟩⟩,fun hi9=> ?_⟩
  ·have hr':z%10 ^ (9-i)=0:=by
    have:=eq_of_beq hr
    omega
   have hz0:=zer hr' hx
   subst hz0
   exact⟨⟨0,0,0,ds1⟩,⟨k1,Nat.zero_le _⟩,k5,AVle.one (CLe.z (by simp) (Nat.le_refl _)),ABle.refl _⟩
  ·rw[e,Nat.zero_mod] at hr
   cases hr
  ·have e:i=9:=by omega
   subst e
   have h3:(10:Nat) ^ 9=1000000000:=by decide
   rw[h3] at k4
   exact⟨⟨z,0,0,ds1⟩,⟨k1,k2⟩,by show z<z0;omega,AVle.one (CLe.z (by simp) (Nat.le_refl _)),ABle.refl _⟩
 ·have:y=0:=by omega
  subst this
  rw[decL_zero,List.append_nil] at h1
  have hE:bytsL ds.length (fun a=>[Cell.v (.int .u8 (ds.getD a 0))])=ds:=bytsL_E
  have hE':bytsL ds.length (bytE ds)=ds:=bytsL_E
  simp only[hE,hE']
  refine⟨fun _ _=>CsLe.refl _,by rw[h1];omega,fun j _=>⟨_,rfl⟩,?_⟩
  have e:decT n=strN ds.length (bytE ds.reverse):=by
   unfold decT
   rw[if_neg h0,h1]
  rw[e]
  exact AVle.refl _
end Go.Proofs.YtmagoiniahpofaaGreat
namespace Go.Proofs.YtmagoiniahpofaaGreat
open Go Go.RowKit
theorem CLe.zabs {x:Int} {s:Nat} : CLe (.z x s 0) (.z (x.natAbs:Int) s 0):=by
 refine⟨fun G F w v hv=> ?_⟩
 have hv':COk F w (.z x s 0) v:=hv
 cases hv' with
 |z h hs=>
  obtain⟨a,h1,h2⟩:=h
  exact GOk.of (.z ⟨a,by rw[Int.natAbs_natCast];exact h1,by rw[Int.natAbs_natCast];exact h2⟩ (by rw[Int.natAbs_natCast];exact hs))
theorem CLe.qabs {x:Rat} {s:Nat} : CLe (.q x s 0) (.z (x.num.natAbs:Int) s 0):=by
 refine⟨fun G F w v hv=> ?_⟩
 have hv':COk F w (.q x s 0) v:=hv
 cases hv' with
 |q h hs=>
  obtain⟨a,h1,h2⟩:=h
  refine GOk.of (.z ⟨a,by rw[Int.natAbs_natCast];exact h1,by rw[Int.natAbs_natCast];exact h2⟩ ?_)
  rw[Int.natAbs_natCast]
  unfold rl at hs
  omega
theorem CLe.zneg {x:Int} {s:Nat} : CLe (.z x s 1) (.v (.bool (decide (x<0)))):=by
 refine⟨fun G F w v hv=> ?_⟩
 have hv':COk F w (.z x s 1) v:=hv
 cases hv' with
 |z h hs=>
  have h1:v= .bool (decide (x<0)):=h
  subst h1
  exact GOk.of (.v _ rfl)
theorem CLe.qneg {x:Rat} {s:Nat} : CLe (.q x s 1) (.v (.bool (decide (x.num<0)))):=by
 refine⟨fun G F w v hv=> ?_⟩
 have hv':COk F w (.q x s 1) v:=hv
 cases hv' with
 |q h hs=>
  have h1:v= .bool (decide (x.num<0)):=h
  subst h1
  exact GOk.of (.v _ rfl)
theorem zlen {G:Nat→GV} {F:Nat→Prop} {w:World} {x:Int} {s:Nat} {v:Value} (h:GOk G F w (.z x s 0) v):(limbs x.natAbs).length≤s:=by
 have hv':COk F w (.z x s 0) v:=h
 cases hv' with
 |z h hs=>exact hs
theorem qlen {G:Nat→GV} {F:Nat→Prop} {w:World} {x:Rat} {s i:Nat} {v:Value} (h:GOk G F w (.q x s i) v):rl x≤s:=by
 have hv':COk F w (.q x s i) v:=h
 cases hv' with
 |q h hs=>exact hs
theorem RunOK.more {P:Program} {D:Prop} {B:Nat} {f:FuncId} {run run':Run} (h:RunOK P D B f run')
  (H:∀ b avs t e,run b avs t=some e→allP e.ps→∀ (G:Nat→GV) (F:Nat→Prop) (w:World) (vs:List Value),AvsOk (GOk G F w) avs vs→∃ e',run' b avs t=some e'∧allP e'.ps∧e'.rc none [] []=e.rc none [] []):RunOK P D B f run:=by
 refine⟨h.1,fun b avs t e hr hp G F w vs V hvs=> ?_⟩
 obtain⟨e',h1,h2,h3⟩:=H b avs t e hr hp G F w vs hvs
 rw[← h3]
 exact h.2 b avs t e' h1 h2 G F w vs V hvs
def natC:List Cell→Option (Nat × Nat)
 |[.z x s 0]=>some (x.natAbs,s)
 |[.q x s 0]=>some (x.num.natAbs,s)
 |_=>none
theorem natC_le {l:List Cell} {n s:Nat} (h:natC l=some (n,s)):CsLe l [.z (n:Int) s 0]:=by
 unfold natC at h
 split at h
 ·cases h;exact CsLe.cons CLe.zabs CsLe.nil
 ·cases h;exact CsLe.cons CLe.qabs CsLe.nil
 ·cases h
def ntxB:Run:=fun _ avs _=>match avs with
 |[.s true l]=>match natC l with
  |some (n,s)=>some { val:=some (.s false [.v (.string (decT n))]),ps:=[s≤50000,(limbs n).length≤50000] }
  |none=>none
 |_=>none
def ntxC:Run:=fun _ avs _=>match avs with
 |[.s true l]=>match natC l with
  |some (n,s)=>some { val:=some (.s false [.v (.string (decT n))]),ps:=[s≤50000] }
  |none=>none
 |_=>none
set_option maxRecDepth 100000 in
theorem ntxB_ok (D:Prop) (B:Nat):RunOK Tryz.prog D B 100 ntxB:=by
 refine fn_pure (c:=Tryz.f100.body.getD .skip) (ctx_ok (gTx_ok D)) (by kernel_rfl) Tryz.func100 (by kernel_rfl) (by kernel_rfl) (fun b avs t e hr hp=> ?_) B
 unfold ntxB at hr
 split at hr
 ·rename_i l
  split at hr
  ·rename_i n s hn
   cases hr
   obtain⟨h1,h2,_⟩:=hp
   exact⟨rfl,_,[.s true [.z (n:Int) s 0]],_,rfl,AvsLe.cons (AVle.s (natC_le hn)) AvsLe.nil,by rw[Tryz.ntmps100];simp,ntx_true n s h1 h2⟩
  ·cases hr
 ·cases hr
theorem ntxC_ok (D:Prop) (B:Nat):RunOK Tryz.prog D B 100 ntxC:=by
 refine (ntxB_ok D B).more fun b avs t e hr hp G F w vs hvs=> ?_
 unfold ntxC at hr
 split at hr
 ·rename_i l
  split at hr
  ·rename_i n s hn
   cases hr
   obtain⟨h1,_⟩:=hp
   refine⟨{ val:=some (.s false [.v (.string (decT n))]),ps:=[s≤50000,(limbs n).length≤50000] },?_,⟨h1,?_,trivial⟩,rfl⟩
   ·simp only[ntxB,hn]
   ·match vs,hvs with
    |[a],hvs=>
     obtain⟨cs,_,k1,k2⟩:=(AVle.s (a:=true) (natC_le hn)).h _ _ _ _ (hvs.2 0 _ a rfl rfl)
     match cs,k1,k2 with
     |[c],_,k2=>
      have:=zlen (k2 0 _ c rfl rfl)
      rw[Int.natAbs_natCast] at this
      omega
    |[],hvs=>cases hvs.1
    |_::_::_,hvs=>cases hvs.1
  ·cases hr
 ·cases hr
def zedT (x:Int):ByteArray:=if x<0 then ⟨#[45]⟩++decT x.natAbs else decT x.natAbs
def zedS (n:Nat) (b:Bool):ByteArray:=if b=true then ⟨#[45]⟩++decT n else decT n
def gZt:List (Nat × Run):=[(100,ntxC)]
theorem gZt_ok (D:Prop):∀ p∈gZt,∀ B,RunOK Tryz.prog D B p.1 p.2:=ctx_cons (ntxC_ok D) fun p hp=>by cases hp
theorem ztx_vc (n s:Nat) (b:Bool):vc Tryz.prog (lk gZt) Tryz.f81.ntmps [] (Tryz.f81.body.getD .skip) ⟨entryS [.s true [.z (n:Int) s 0,.v (.bool b)]] 0,[]⟩ (retVC Tryz.prog Tryz.f81.results.toList (.s false [.v (.string (zedS n b))]))=((b=true→s≤50000∧(↑(ByteArray.size { data:= #[(45:UInt8)] } + ByteArray.size (decT (Int.natAbs (↑n:Int)))):Int)≤(9223372036854775807:Int)∧AVle (AV.s false [Cell.v (Value.string ({ data:= #[(45:UInt8)] } ++ decT (Int.natAbs (↑n:Int))))]) (AV.s false [Cell.v (Value.string (zedS n b))]))∧(b=false→s≤50000∧AVle (AV.s false [Cell.v (Value.string (decT (Int.natAbs (↑n:Int))))]) (AV.s false [Cell.v (Value.string (zedS n b))]))):=by kernel_rfl
theorem push_size:∀ (l:List Int) (b:ByteArray),(l.foldl (fun r x=>r.push (UInt8.ofNat x.toNat)) b).size=b.size+l.length
 |[],b=>rfl
 |x::l,b=>by
  rw[List.foldl_cons,push_size l,ByteArray.size_push,List.length_cons]
  omega
theorem strN_size (n:Nat) (e:Nat→List Cell):(strN n e).size=n:=by
 unfold strN
 rw[push_size]
 simp
theorem decT_size {n s:Nat} (h:(limbs n).length≤s):(decT n).size≤10*s+1:=by
 unfold decT
 split
 ·show (1:Nat)≤_
  omega
 ·rw[strN_size]
  have:=decL_limbs h
  omega
theorem zedS_eq (x:Int):zedS x.natAbs (decide (x<0))=zedT x:=by
 unfold zedS zedT
 simp only[decide_eq_true_eq]
theorem zedT_size {x:Int} {s:Nat} (h:(limbs x.natAbs).length≤s):(zedT x).size≤10*s+2:=by
 have:=decT_size h
 unfold zedT
 split
 ·rw[ByteArray.size_append]
  show 1+_≤_
  omega
 ·omega
theorem ztx_true (n s:Nat) (b:Bool) (hs:s≤50000) (hl:(limbs n).length≤50000):vc Tryz.prog (lk gZt) Tryz.f81.ntmps [] (Tryz.f81.body.getD .skip) ⟨entryS [.s true [.z (n:Int) s 0,.v (.bool b)]] 0,[]⟩ (retVC Tryz.prog Tryz.f81.results.toList (.s false [.v (.string (zedS n b))])):=by
 rw[ztx_vc]
 have hz:=decT_size hl
 have h1:ByteArray.size { data:= #[(45:UInt8)] } =1:=rfl
 simp only[Int.natAbs_natCast,h1]
 refine⟨fun hb=>⟨hs,by omega,?_⟩,fun hb=>⟨hs,?_⟩⟩
 ·subst hb;exact AVle.refl _
 ·subst hb;exact AVle.refl _
def zsC:List Cell→Option (Int × Nat × Prop)
 |[.z x s 0,.z y _ 1]=>some (x,s,y=x)
 |[.q x s 0,.q y _ 1]=>some (x.num,s,y=x)
 |_=>none
theorem zsC_le {l:List Cell} {x:Int} {s:Nat} {p:Prop} (h:zsC l=some (x,s,p)) (hp:p):CsLe l [.z (x.natAbs:Int) s 0,.v (.bool (decide (x<0)))]:=by
 unfold zsC at h
 split at h
 ·cases h;subst hp;exact CsLe.cons CLe.zabs (CsLe.cons CLe.zneg CsLe.nil)
 ·cases h;subst hp;exact CsLe.cons CLe.qabs (CsLe.cons CLe.qneg CsLe.nil)
 ·cases h
def ztxB:Run:=fun _ avs _=>match avs with
 |[.s true l]=>match zsC l with
  |some (x,s,p)=>some { val:=some (.s false [.v (.string (zedT x))]),ps:=[p,s≤50000,(limbs x.natAbs).length≤50000] }
  |none=>none
 |_=>none
def ztxC:Run:=fun _ avs _=>match avs with
 |[.s true l]=>match zsC l with
  |some (x,s,p)=>some { val:=some (.s false [.v (.string (zedT x))]),ps:=[p,s≤50000] }
  |none=>none
 |_=>none
set_option maxRecDepth 100000 in
theorem ztxB_ok (D:Prop) (B:Nat):RunOK Tryz.prog D B 81 ztxB:=by
 refine fn_pure (c:=Tryz.f81.body.getD .skip) (ctx_ok (gZt_ok D)) (by kernel_rfl) Tryz.func81 (by kernel_rfl) (by kernel_rfl) (fun b avs t e hr hp=> ?_) B
 unfold ztxB at hr
 split at hr
 ·rename_i l
  split at hr
  ·rename_i x s p hn
   cases hr
   obtain⟨h0,h1,h2,_⟩:=hp
   have hv:=ztx_true x.natAbs s (decide (x<0)) h1 h2
   rw[zedS_eq] at hv
   exact⟨rfl,_,_,_,rfl,AvsLe.cons (AVle.s (zsC_le hn h0)) AvsLe.nil,by rw[Tryz.ntmps81];simp,hv⟩
  ·cases hr
 ·cases hr
theorem ztxC_ok (D:Prop) (B:Nat):RunOK Tryz.prog D B 81 ztxC:=by
 refine (ztxB_ok D B).more fun b avs t e hr hp G F w vs hvs=> ?_
 unfold ztxC at hr
 split at hr
 ·rename_i l
  split at hr
  ·rename_i x s p hn
   cases hr
   obtain⟨h0,h1,_⟩:=hp
   refine⟨{ val:=some (.s false [.v (.string (zedT x))]),ps:=[p,s≤50000,(limbs x.natAbs).length≤50000] },?_,⟨h0,h1,?_,trivial⟩,rfl⟩
   ·simp only[ztxB,hn]
   ·match vs,hvs with
    |[a],hvs=>
     obtain⟨cs,_,k1,k2⟩:=(AVle.s (a:=true) (zsC_le hn h0)).h _ _ _ _ (hvs.2 0 _ a rfl rfl)
     match cs,k1,k2 with
     |[c,d],_,k2=>
      have:=zlen (k2 0 _ c rfl rfl)
      rw[Int.natAbs_natCast] at this
      omega
    |[],hvs=>cases hvs.1
    |_::_::_,hvs=>cases hvs.1
  ·cases hr
 ·cases hr
def denC:Run:=pureC fun avs=>match avs with
 |[u]=>match asQ u with
  |some (x,s,p)=>some (.s true (zC (x.den:Int) s),[p,s≤50000])
  |none=>none
 |_=>none
theorem denC_ok (D:Prop) (B:Nat):RunOK Tryz.prog D B 40 denC:=by
 refine runOK_pure (by kernel_rfl) fun avs spec ps hr hp G F w vs hvs=> ?_
 split at hr
 ·rename_i u
  split at hr
  ·rename_i x s p hx
   cases hr
   obtain⟨h1,h3,_⟩:=hp
   match vs,hvs with
   |[a],hvs=>
    obtain⟨k1,k2⟩:=q_to ((asQ_ok hx h1).h _ _ _ _ (hvs.2 0 _ a rfl rfl))
    unfold rl at k2
    refine (den_any x a w k1 (by omega)).mono ?_
    rintro e w' ⟨r,rfl,h4,h5⟩
    exact⟨_,rfl,fun F'=>z_of h4 (by rw[Int.natAbs_natCast];omega),own_own h5⟩
   |[],hvs=>cases hvs.1
   |_::_::_,hvs=>cases hvs.1
  ·cases hr
 ·cases hr
def zcmpC:Run:=pureC fun avs=>match avs with
 |[u,v]=>match asZ u,asZ v with
  |some (x,s,p),some (y,t,q)=>some (.s false [.v (.int .i64 (cmpZ x y))],[p,q,s≤50000∧t≤50000])
  |_,_=>none
 |_=>none
theorem zcmpC_ok (D:Prop) (B:Nat):RunOK Tryz.prog D B 41 zcmpC:=by
 refine runOK_pure (by kernel_rfl) fun avs spec ps hr hp G F w vs hvs=> ?_
 split at hr
 ·rename_i u v
  split at hr
  ·rename_i x s p y t q hx hy
   cases hr
   obtain⟨h1,h2,h3,_⟩:=hp
   match vs,hvs with
   |[a,b],hvs=>
    obtain⟨k1,k2⟩:=z_to ((asZ_ok hx h1).h _ _ _ _ (hvs.2 0 _ a rfl rfl))
    obtain⟨k3,k4⟩:=z_to ((asZ_ok hy h2).h _ _ _ _ (hvs.2 1 _ b rfl rfl))
    refine (zCmp_any x y a b w k1 k3 (by omega) (by omega)).mono ?_
    rintro e w' ⟨rfl,h5⟩
    exact⟨_,rfl,fun F'=>int_ok,own_own h5⟩
   |[],hvs=>cases hvs.1
   |[_],hvs=>cases hvs.1
   |_::_::_::_,hvs=>cases hvs.1
  ·cases hr
 ·cases hr
def ratT (x:Rat):ByteArray:=if x.den=1 then zedT x.num else zedT x.num++⟨#[47]⟩++zedT (x.den:Int)
def gRt:List (Nat × Run):=[(40,denC),(30,zofC),(41,zcmpC),(81,ztxC)]
theorem gRt_ok (D:Prop):∀ p∈gRt,∀ B,RunOK Tryz.prog D B p.1 p.2:=ctx_cons (denC_ok D) (ctx_cons (zofC_ok D) (ctx_cons (zcmpC_ok D) (ctx_cons (ztxC_ok D) fun p hp=>by cases hp)))
theorem rtx_vc (x:Rat) (s:Nat):vc Tryz.prog (lk gRt) Tryz.f46.ntmps [] (Tryz.f46.body.getD .skip) ⟨entryS [.s true (qC x s)] 0,[]⟩ (retVC Tryz.prog Tryz.f46.results.toList (.s false [.v (.string (ratT x))]))=(SmC (qsC [(x,s)])∧s≤50000∧I64s (1:Int)∧CsLe [Cell.z (↑(Rat.den x):Int) s 0,Cell.z (↑(Rat.den x):Int) s 1] [Cell.z (↑(Rat.den x):Int) s 0,Cell.z (↑(Rat.den x):Int) s 1]∧CsLe [Cell.z (1:Int) 2 0,Cell.z (1:Int) 2 1] [Cell.z (1:Int) 2 0,Cell.z (1:Int) 2 1]∧(s≤50000∧2≤50000)∧((cmpZ (↑(Rat.den x):Int) (1:Int) != (0:Int))=true→x=x∧s≤50000∧(↑(ByteArray.size (zedT (Rat.num x))+ByteArray.size { data:= #[(47:UInt8)] }):Int)≤(9223372036854775807:Int)∧(↑(Rat.den x):Int)=(↑(Rat.den x):Int)∧s≤50000∧(↑(ByteArray.size (zedT (Rat.num x) ++ { data:= #[(47:UInt8)] })+ByteArray.size (zedT (↑(Rat.den x):Int))):Int)≤(9223372036854775807:Int)∧AVle (AV.s false [Cell.v (Value.string (zedT (Rat.num x) ++ { data:= #[(47:UInt8)] } ++ zedT (↑(Rat.den x):Int)))]) (AV.s false [Cell.v (Value.string (ratT x))]))∧((cmpZ (↑(Rat.den x):Int) (1:Int) != (0:Int))=false→x=x∧s≤50000∧AVle (AV.s false [Cell.v (Value.string (zedT (Rat.num x)))]) (AV.s false [Cell.v (Value.string (ratT x))]))):=by kernel_rfl
theorem cmpZ_ne (x y:Int):(cmpZ x y != 0)=decide (x≠y):=by
 unfold cmpZ
 rcases Int.lt_trichotomy x y with h | h | h
 ·have h2:x≠y:=by omega
  simp[h,h2]
 ·simp[h]
 ·have h2:x≠y:=by omega
  have h3:¬ x<y:=by omega
  simp[h3,h2,h]
theorem ratT_size {x:Rat} {s:Nat} (h:rl x≤s):(ratT x).size≤20*s+5:=by
 unfold rl at h
 have h1:=zedT_size (x:=x.num) (s:=s) (by omega)
 have h2:=zedT_size (x:=(x.den:Int)) (s:=s) (by rw[Int.natAbs_natCast];omega)
 unfold ratT
 split
 ·omega
 ·rw[ByteArray.size_append,ByteArray.size_append]
  show _+1+_≤_
  omega
theorem rtx_true (x:Rat) (s:Nat) (hs:s≤50000) (hl:rl x≤50000):vc Tryz.prog (lk gRt) Tryz.f46.ntmps [] (Tryz.f46.body.getD .skip) ⟨entryS [.s true (qC x s)] 0,[]⟩ (retVC Tryz.prog Tryz.f46.results.toList (.s false [.v (.string (ratT x))])):=by
 rw[rtx_vc]
 have hx:=hl
 unfold rl at hx
 have h1:=zedT_size (x:=x.num) (s:=50000) (by omega)
 have h2:=zedT_size (x:=(x.den:Int)) (s:=50000) (by rw[Int.natAbs_natCast];omega)
 have h3:ByteArray.size { data:= #[(47:UInt8)] } =1:=rfl
 have h4:I64s 1:=by unfold I64s;omega
 simp only[SmC,cs_refl,true_and,hs,h4,h3,cmpZ_ne,ByteArray.size_append,decide_eq_true_eq,decide_eq_false_iff_not]
 refine⟨by omega,fun h=>⟨by omega,by omega,?_⟩,fun h=> ?_⟩
 ·have:ratT x=zedT x.num++⟨#[47]⟩++zedT (x.den:Int):=by unfold ratT;rw[if_neg (by omega)]
  rw[this]
  exact AVle.refl _
 ·have:ratT x=zedT x.num:=by unfold ratT;rw[if_pos (by omega)]
  rw[this]
  exact AVle.refl _
def rtxB:Run:=fun _ avs _=>match avs with
 |[u]=>match asQ u with
  |some (x,s,p)=>some { val:=some (.s false [.v (.string (ratT x))]),ps:=[p,s≤50000,rl x≤50000] }
  |none=>none
 |_=>none
def rtxC:Run:=fun _ avs _=>match avs with
 |[u]=>match asQ u with
  |some (x,s,p)=>some { val:=some (.s false [.v (.string (ratT x))]),ps:=[p,s≤50000] }
  |none=>none
 |_=>none
set_option maxRecDepth 100000 in
theorem rtxB_ok (D:Prop) (B:Nat):RunOK Tryz.prog D B 46 rtxB:=by
 refine fn_pure (c:=Tryz.f46.body.getD .skip) (ctx_ok (gRt_ok D)) (by kernel_rfl) Tryz.func46 (by kernel_rfl) (by kernel_rfl) (fun b avs t e hr hp=> ?_) B
 unfold rtxB at hr
 split at hr
 ·rename_i u
  split at hr
  ·rename_i x s p hn
   cases hr
   obtain⟨h0,h1,h2,_⟩:=hp
   exact⟨rfl,_,_,_,rfl,AvsLe.cons (asQ_ok hn h0) AvsLe.nil,by rw[Tryz.ntmps46];simp,rtx_true x s h1 h2⟩
  ·cases hr
 ·cases hr
theorem rtxC_ok (D:Prop) (B:Nat):RunOK Tryz.prog D B 46 rtxC:=by
 refine (rtxB_ok D B).more fun b avs t e hr hp G F w vs hvs=> ?_
 unfold rtxC at hr
 split at hr
 ·rename_i u
  split at hr
  ·rename_i x s p hn
   cases hr
   obtain⟨h0,h1,_⟩:=hp
   refine⟨{ val:=some (.s false [.v (.string (ratT x))]),ps:=[p,s≤50000,rl x≤50000] },?_,⟨h0,h1,?_,trivial⟩,rfl⟩
   ·simp only[rtxB,hn]
   ·match vs,hvs with
    |[a],hvs=>
     obtain⟨k1,k2⟩:=q_to ((asQ_ok hn h0).h _ _ _ _ (hvs.2 0 _ a rfl rfl))
     omega
    |[],hvs=>cases hvs.1
    |_::_::_,hvs=>cases hvs.1
  ·cases hr
 ·cases hr
def ptT (p:Pq):ByteArray:=ratT p.1++⟨#[32]⟩++ratT p.2
def gPx:List (Nat × Run):=[(46,rtxC)]
theorem gPx_ok (D:Prop):∀ p∈gPx,∀ B,RunOK Tryz.prog D B p.1 p.2:=ctx_cons (rtxC_ok D) fun p hp=>by cases hp
theorem ptx_vc (p:Pq) (s:Nat):vc Tryz.prog (lk gPx) Tryz.f22.ntmps [] (Tryz.f22.body.getD .skip) ⟨entryS [.s true (ptC p s)] 0,[]⟩ (retVC Tryz.prog Tryz.f22.results.toList (.s false [.v (.string (ptT p))]))=(SmC (qsC [(Prod.fst p,s)])∧s≤50000∧(↑(ByteArray.size (ratT (Prod.fst p))+ByteArray.size { data:= #[(32:UInt8)] }):Int)≤(9223372036854775807:Int)∧SmC (qsC [(Prod.snd p,s)])∧s≤50000∧(↑(ByteArray.size (ratT (Prod.fst p) ++ { data:= #[(32:UInt8)] })+ByteArray.size (ratT (Prod.snd p))):Int)≤(9223372036854775807:Int)∧AVle (AV.s false [Cell.v (Value.string (ratT (Prod.fst p) ++ { data:= #[(32:UInt8)] } ++ ratT (Prod.snd p)))]) (AV.s false [Cell.v (Value.string (ptT p))])):=by kernel_rfl
theorem ptx_true (p:Pq) (s:Nat) (hs:s≤50000) (h1:rl p.1≤50000) (h2:rl p.2≤50000):vc Tryz.prog (lk gPx) Tryz.f22.ntmps [] (Tryz.f22.body.getD .skip) ⟨entryS [.s true (ptC p s)] 0,[]⟩ (retVC Tryz.prog Tryz.f22.results.toList (.s false [.v (.string (ptT p))])):=by
 rw[ptx_vc]
 have k1:=ratT_size h1
 have k2:=ratT_size h2
 have h3:ByteArray.size { data:= #[(32:UInt8)] } =1:=rfl
 simp only[SmC,cs_refl,true_and,hs,h3,ByteArray.size_append]
 exact⟨by omega,by omega,AVle.refl _⟩
def ptxB:Run:=fun _ avs _=>match avs with
 |[.s true l]=>match qsOf l with
  |some [(x,s),(y,t)]=>some { val:=some (.s false [.v (.string (ptT (x,y)))]),ps:=[CsLe l (ptC (x,y) (max s t)),max s t≤50000,rl x≤50000,rl y≤50000] }
  |_=>none
 |_=>none
def ptxC:Run:=fun _ avs _=>match avs with
 |[.s true l]=>match qsOf l with
  |some [(x,s),(y,t)]=>some { val:=some (.s false [.v (.string (ptT (x,y)))]),ps:=[CsLe l (ptC (x,y) (max s t)),max s t≤50000] }
  |_=>none
 |_=>none
set_option maxRecDepth 100000 in
theorem ptxB_ok (D:Prop) (B:Nat):RunOK Tryz.prog D B 22 ptxB:=by
 refine fn_pure (c:=Tryz.f22.body.getD .skip) (ctx_ok (gPx_ok D)) (by kernel_rfl) Tryz.func22 (by kernel_rfl) (by kernel_rfl) (fun b avs t e hr hp=> ?_) B
 unfold ptxB at hr
 split at hr
 ·rename_i l
  split at hr
  ·rename_i x s y t hn
   cases hr
   obtain⟨h0,h1,h2,h3,_⟩:=hp
   exact⟨rfl,_,_,_,rfl,AvsLe.cons (AVle.s h0) AvsLe.nil,by rw[Tryz.ntmps22];simp,ptx_true (x,y) _ h1 h2 h3⟩
  ·cases hr
 ·cases hr
theorem ptxC_ok (D:Prop) (B:Nat):RunOK Tryz.prog D B 22 ptxC:=by
 refine (ptxB_ok D B).more fun b avs t e hr hp G F w vs hvs=> ?_
 unfold ptxC at hr
 split at hr
 ·rename_i l
  split at hr
  ·rename_i x s y t hn
   cases hr
   obtain⟨h0,h1,_⟩:=hp
   refine⟨{ val:=some (.s false [.v (.string (ptT (x,y)))]),ps:=[CsLe l (ptC (x,y) (max s t)),max s t≤50000,rl x≤50000,rl y≤50000] },?_,⟨h0,h1,?_⟩,rfl⟩
   ·simp only[ptxB,hn]
   ·match vs,hvs with
    |[a],hvs=>
     obtain⟨cs,_,k1,k2⟩:=(AVle.s (a:=true) h0).h _ _ _ _ (hvs.2 0 _ a rfl rfl)
     match cs,k1,k2 with
     |[c0,c1,c2,c3,c4,c5,c6,c7],_,k2=>
      have q1:rl x≤max s t:=qlen (k2 0 _ c0 rfl rfl)
      have q2:rl y≤max s t:=qlen (k2 4 _ c4 rfl rfl)
      exact⟨by omega,by omega,trivial⟩
    |[],hvs=>cases hvs.1
    |_::_::_,hvs=>cases hvs.1
  ·cases hr
 ·cases hr
end Go.Proofs.YtmagoiniahpofaaGreat
