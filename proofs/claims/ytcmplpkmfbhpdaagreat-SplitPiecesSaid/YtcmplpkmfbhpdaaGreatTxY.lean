import Derived.Test.YtcmplpkmfbhpdaaGreatTxB
namespace Go.Proofs.YtcmplpkmfbhpdaaGreat
open Go Go.RowKit
theorem anP (n:Int):IntKind.u32.wrap n=n%4294967296:=by simp[IntKind.wrap,IntKind.bits,IntKind.signed]
theorem ar3 (n:Int):IntKind.u8.wrap n=n%256:=by simp[IntKind.wrap,IntKind.bits,IntKind.signed]
theorem aeA:acI 0=[]:=by rw[acI];rfl
theorem ah3 {n:Nat} (h:n≠0):acI n=((48+n%10:Nat):Int)::acI (n/10):=by rw[acI,dif_neg h]
theorem alY:∀ (k n:Nat),n<10 ^ k->(acI n).length<=k
 |0,n,h=>by
  have:n=0:=by simpa using h
  subst this;rw[aeA];exact Nat.le_refl _
 |k+1,n,h=>by
  by_cases h0:n=0
  ·subst h0;rw[aeA];exact Nat.zero_le _
  ·rw[ah3 h0,List.length_cons];have:=alY k (n/10) (by rw[Nat.pow_succ] at h;omega);omega
theorem ahb {n s:Nat} (h:(limbs n).length<=s):(acI n).length<=10*s:=by
 refine alY _ _ ?_;have h1:=(limbs_len n s).1 h;refine Nat.lt_of_lt_of_le h1 ?_;rw[Nat.pow_mul];exact Nat.pow_le_pow_left (by decide) s
theorem ai5 (n:Nat):(((limbs (n:Int).natAbs).length:Int) == 0)=decide (n=0):=by
 have:=acp (n:=n);rw[Int.natAbs_natCast];by_cases h:n=0
 ·rw[this.2 h];simp[h]
 ·have:(limbs n).length≠0:=λe=>h (this.1 (List.eq_nil_of_length_eq_zero e));rw[decide_eq_false h,beq_eq_false_iff_ne];omega
theorem arH {y k:Nat} : (y%10 ^ (k+1))%10=y%10/\y%10 ^ (k+1)/10=(y/10)%10 ^ k/\y/10 ^ (k+1)=y/10/10 ^ k:=by
 have e:10 ^ (k+1)=10*10 ^ k:=by rw[Nat.pow_succ,Nat.mul_comm]
 rw[e];refine⟨Nat.mod_mul_right_mod _ _ _,?_,(Nat.div_div_eq_div_mul _ _ _).symm⟩;rw[Nat.mod_mul_right_div_self]
theorem arO {T:TypeId} {ds:List Int} {x y:Int} (h:x=y):aaf (aae.row T 1 (ds.length+1) λj=>if j<ds.length then [aaa.v (.int .u8 (ds.getD j 0))] else [[aaa.v (.int .u8 x)]].getD (j-ds.length) []) (aae.row T 1 (ds++[y]).length (agH (ds++[y]))):=by
 subst h;refine aaf.row (by simp) (λj hj=> ?_) (λj _=>rfl);show aan (if j<ds.length then _ else _) _;by_cases h:j<ds.length
 ·rw[if_pos h];exact aix (by simp[List.getD,List.getElem?_append_left h])
 ·have:j=ds.length:=by omega
  subst this;rw[if_neg h,Nat.sub_self];exact aix (by simp[List.getD])
set_option maxHeartbeats 1000000 in
set_option maxRecDepth 100000 in
theorem aq9 (n s:Nat) (hs:s<=50000) (hl:(limbs n).length<=50000):vc Tryz.prog (lk gTx) Tryz.f177.ntmps [(5,an7 n s),(9,an6 n s),(1000011,pre [] [.ren 39 900])] (Tryz.f177.body.getD .skip) ⟨aao [.s true [.z (n:Int) s 0]] 0,[]⟩ (aaH Tryz.prog Tryz.f177.results.toList (.s false [.v (.string (ad8 n))])):=by
 rw[axz];have pos:∀ y:Nat,(((limbs (y:Int).natAbs).length:Int)>0)=(y≠0):=λy=>by
  have:=ai5 y;by_cases h:y=0
  ·subst h;simp[limbs_zero]
  ·have h1:¬ (((limbs (y:Int).natAbs).length:Int)=0):=λe=>by rw[e] at this;simp[h] at this
   refine propext ⟨λ_=>h,λ_=>by omega⟩
 have hd:=ahb hl;simp only[SmA,aaP,true_and,and_true,decide_eq_true_eq,decide_eq_false_iff_not,ai5,pos];refine⟨λh0=> ?_,λh0=>⟨⟨⟨n,0,0,[]⟩,⟨rfl,Nat.le_refl _⟩,aac.refl _,aaf.row rfl (λi hi=>absurd hi (Nat.not_lt_zero i)) (λi hi=>absurd hi (Nat.not_lt_zero i))⟩,?_⟩⟩
 ·subst h0;exact aac.refl _
 rintro⟨y,y0,i,ds⟩ ⟨h1,h2⟩;dsimp only at h1 h2 ⊢;refine⟨λhy=> ?_,λhy=> ?_⟩
 ·refine⟨by omega,hs,by omega,⟨y,y,0,ds⟩,⟨h1,h2,Nat.zero_le _,by simp,Nat.pos_of_ne_zero hy⟩,⟨⟨aac.one (CLe.z (by simp) (Nat.le_refl _)),aac.intN (by simp),aac.int rfl⟩,aaf.refl _⟩,?_⟩;rintro⟨z,z0,i,ds1⟩ ⟨k1,k2,k3,k4,k5⟩ hz;dsimp only at k1 k2 k3 k4 k5 hz ⊢;subst hz;have hdl:ds1.length<=500000:=by
   have:=congrArg List.length k1;rw[List.length_append] at this;omega
  have next:i<9->z≠0->∃ i':TI,(i'.ds++acI i'.y=acI n/\i'.y<=n/\i'.i<=9/\i'.y*10 ^ i'.i<=i'.y0/\0<i'.y0)/\i'.y0=z0/\9-i'.i<9-i/\(aac (AV.s false [aaa.z ((z/10 ^ (9-i):Nat):Int) s 0]) (AV.s false [aaa.z ((i'.y/10 ^ (9-i'.i):Nat):Int) s 0])/\aac (AV.s false [aaa.v (.int .u32 (IntKind.wrap .u32 (Int.tdiv ((z%10 ^ (9-i):Nat):Int) 10)))]) (AV.s false [aaa.v (.int .u32 ((i'.y%10 ^ (9-i'.i):Nat):Int))])/\aac (AV.s false [aaa.v (.int .i64 (IntKind.wrap .i64 ((i:Int)+1)))]) (AV.s false [aaa.v (.int .i64 (i'.i:Int))]))/\aaf (aae.row 5 1 (ds1.length+1) λj=>if j<ds1.length then [aaa.v (.int .u8 (ds1.getD j 0))] else [[aaa.v (.int .u8 (IntKind.wrap .u8 (IntKind.wrap .u32 (48+Int.tmod ((z%10 ^ (9-i):Nat):Int) 10))))]].getD (j-ds1.length) []) (aae.row 5 1 i'.ds.length λa=>[aaa.v (.int .u8 (i'.ds.getD a 0))]):=by
   intro hi hz;obtain⟨k,hk⟩:∃ k,9-i=k+1:=⟨8-i,by omega⟩
   have hk':9-(i+1)=k:=by omega
   obtain⟨d1,d2,d3⟩:=arH (y:=z) (k:=k);have hlt:z%10 ^ (k+1)<1000000000:=by
    have h1:z%10 ^ (k+1)<10 ^ (k+1):=Nat.mod_lt _ (Nat.pow_pos (by decide));have h2:10 ^ (k+1)<=10 ^ 9:=Nat.pow_le_pow_right (by decide) (by omega);have h3:(10:Nat) ^ 9=1000000000:=by decide
    omega
   refine⟨⟨z/10,z0,i+1,ds1++[((48+z%10:Nat):Int)]⟩,⟨?_,?_,?_,?_,k5⟩,rfl,?_,⟨aac.one (CLe.z ?_ (Nat.le_refl _)),aac.intN ?_,aac.int ?_⟩,arO ?_⟩
   ·show (ds1++[((48+z%10:Nat):Int)])++acI (z/10)=acI n;rw[List.append_assoc,List.singleton_append,<- ah3 hz];exact k1
   ·show z/10<=n;omega
   ·show i+1<=9;omega
   ·show z/10*10 ^ (i+1)<=z0;have e:z/10*10 ^ (i+1)=z/10*10*10 ^ i:=by rw[Nat.pow_succ,Nat.mul_assoc,Nat.mul_comm 10]
    rw[e];exact Nat.le_trans (Nat.mul_le_mul_right _ (Nat.div_mul_le_self _ _)) k4
   ·show 9-(i+1)<9-i;omega
   ·show ((z/10 ^ (9-i):Nat):Int)=((z/10/10 ^ (9-(i+1)):Nat):Int);rw[hk,hk',d3]
   ·show IntKind.wrap .u32 (Int.tdiv ((z%10 ^ (9-i):Nat):Int) 10)=((z/10%10 ^ (9-(i+1)):Nat):Int);rw[hk,hk',<- d2,anP];have:Int.tdiv ((z%10 ^ (k+1):Nat):Int) 10=((z%10 ^ (k+1)/10:Nat):Int):=(Int.ofNat_tdiv _ _).symm;rw[this];generalize z%10 ^ (k+1)=a at *;omega
   ·rw[IntKind.wrap_i64];show _=((i+1:Nat):Int);omega
   ·rw[hk,anP,ar3];have:Int.tmod ((z%10 ^ (k+1):Nat):Int) 10=((z%10 ^ (k+1)%10:Nat):Int):=(Int.ofNat_tmod _ _).symm;rw[this,d1];omega
  have zer:z%10 ^ (9-i)=0->z/10 ^ (9-i)=0->z=0:=λh1 h2=>by
   have:=Nat.div_add_mod z (10 ^ (9-i));rw[h1,h2] at this;omega
  refine⟨λhi9=>⟨λhr=>⟨hr,λhx=> ?_,λhx=>⟨by decide,⟨by decide,by omega⟩,by decide,next (by omega) λe=>hx (by rw[e,Nat.zero_div])⟩⟩,λhr=>⟨hr,by decide,⟨by decide,by omega⟩,by decide,next (by omega) λe=> ?_⟩⟩,λhi9=> ?_⟩
  ·have hr':z%10 ^ (9-i)=0:=by
    have:=eq_of_beq hr;omega
   have hz0:=zer hr' hx;subst hz0;exact⟨⟨0,0,0,ds1⟩,⟨k1,Nat.zero_le _⟩,k5,aac.one (CLe.z (by simp) (Nat.le_refl _)),aaf.refl _⟩
  ·rw[e,Nat.zero_mod] at hr;cases hr
  ·have e:i=9:=by omega
   subst e;have h3:(10:Nat) ^ 9=1000000000:=by decide
   rw[h3] at k4;exact⟨⟨z,0,0,ds1⟩,⟨k1,k2⟩,by show z<z0;omega,aac.one (CLe.z (by simp) (Nat.le_refl _)),aaf.refl _⟩
 ·have:y=0:=by omega
  subst this;rw[aeA,List.append_nil] at h1;have hE:ack ds.length (λa=>[aaa.v (.int .u8 (ds.getD a 0))])=ds:=akg;have hE':ack ds.length (agH ds)=ds:=akg;simp only[hE,hE'];refine⟨λ_ _=>aan.refl _,by rw[h1];omega,λj _=>⟨_,rfl⟩,?_⟩;have e:ad8 n=amU ds.length (agH ds.reverse):=by
   unfold ad8;rw[if_neg h0,h1]
  rw[e];exact aac.refl _
end Go.Proofs.YtcmplpkmfbhpdaaGreat
namespace Go.Proofs.YtcmplpkmfbhpdaaGreat
open Go Go.RowKit
theorem CLe.zabs {x:Int} {s:Nat} : CLe (.z x s 0) (.z (x.natAbs:Int) s 0):=by
 refine⟨λG F w v hv=> ?_⟩;have hv':COk F w (.z x s 0) v:=hv;cases hv' with
 |z h hs=>
  obtain⟨a,h1,h2⟩:=h;exact GOk.of (.z ⟨a,by rw[Int.natAbs_natCast];exact h1,by rw[Int.natAbs_natCast];exact h2⟩ (by rw[Int.natAbs_natCast];exact hs))
theorem CLe.qabs {x:Rat} {s:Nat} : CLe (.q x s 0) (.z (x.num.natAbs:Int) s 0):=by
 refine⟨λG F w v hv=> ?_⟩;have hv':COk F w (.q x s 0) v:=hv;cases hv' with
 |q h hs=>
  obtain⟨a,h1,h2⟩:=h;refine GOk.of (.z ⟨a,by rw[Int.natAbs_natCast];exact h1,by rw[Int.natAbs_natCast];exact h2⟩ ?_);rw[Int.natAbs_natCast];unfold rl at hs;omega
theorem CLe.zneg {x:Int} {s:Nat} : CLe (.z x s 1) (.v (.bool (decide (x<0)))):=by
 refine⟨λG F w v hv=> ?_⟩;have hv':COk F w (.z x s 1) v:=hv;cases hv' with
 |z h hs=>
  have h1:v= .bool (decide (x<0)):=h;subst h1;exact GOk.of (.v _ rfl)
theorem CLe.qneg {x:Rat} {s:Nat} : CLe (.q x s 1) (.v (.bool (decide (x.num<0)))):=by
 refine⟨λG F w v hv=> ?_⟩;have hv':COk F w (.q x s 1) v:=hv;cases hv' with
 |q h hs=>
  have h1:v= .bool (decide (x.num<0)):=h;subst h1;exact GOk.of (.v _ rfl)
theorem aAb {G:Nat->GV} {F:Nat->Prop} {w:World} {x:Int} {s:Nat} {v:Value} (h:GOk G F w (.z x s 0) v):(limbs x.natAbs).length<=s:=by
 have hv':COk F w (.z x s 0) v:=h;cases hv' with
 |z h hs=>exact hs
theorem aAg {G:Nat->GV} {F:Nat->Prop} {w:World} {x:Rat} {s i:Nat} {v:Value} (h:GOk G F w (.q x s i) v):rl x<=s:=by
 have hv':COk F w (.q x s i) v:=h;cases hv' with
 |q h hs=>exact hs
theorem aai.more {P:Program} {D:Prop} {B:Nat} {f:FuncId} {run run':Run} (h:aai P D B f run')
  (H:∀ b avs t e,run b avs t=some e->aca e.ps->∀ (G:Nat->GV) (F:Nat->Prop) (w:World) (vs:List Value),aed (GOk G F w) avs vs->∃ e',run' b avs t=some e'/\aca e'.ps/\e'.rc none [] []=e.rc none [] []):aai P D B f run:=by
 refine⟨h.1,λb avs t e hr hp G F w vs V hvs=> ?_⟩;obtain⟨e',h1,h2,h3⟩:=H b avs t e hr hp G F w vs hvs;rw[<- h3];exact h.2 b avs t e' h1 h2 G F w vs V hvs
def ayB:List aaa->Option (Nat × Nat)
 |[.z x s 0]=>some (x.natAbs,s)
 |[.q x s 0]=>some (x.num.natAbs,s)
 |_=>none
theorem an9 {l:List aaa} {n s:Nat} (h:ayB l=some (n,s)):aan l [.z (n:Int) s 0]:=by
 unfold ayB at h;split at h
 ·cases h;exact aan.cons CLe.zabs aan.nil
 ·cases h;exact aan.cons CLe.qabs aan.nil
 ·cases h
def azc:Run:=λ_ avs _=>match avs with
 |[.s true l]=>match ayB l with
  |some (n,s)=>some { val:=some (.s false [.v (.string (ad8 n))]),ps:=[s<=50000,(limbs n).length<=50000] }
  |none=>none
 |_=>none
def azb:Run:=λ_ avs _=>match avs with
 |[.s true l]=>match ayB l with
  |some (n,s)=>some { val:=some (.s false [.v (.string (ad8 n))]),ps:=[s<=50000] }
  |none=>none
 |_=>none
set_option maxRecDepth 100000 in
theorem auI (D:Prop) (B:Nat):aai Tryz.prog D B 177 azc:=by
 refine aeM (c:=Tryz.f177.body.getD .skip) (aau (axV D)) (by kernel_rfl) Tryz.func177 (by kernel_rfl) (by kernel_rfl) (λb avs t e hr hp=> ?_) B;unfold azc at hr;split at hr
 ·rename_i l;split at hr
  ·rename_i n s hn;cases hr;obtain⟨h1,h2,_⟩:=hp;exact⟨rfl,_,[.s true [.z (n:Int) s 0]],_,rfl,aaj.cons (aac.s (an9 hn)) aaj.nil,by rw[Tryz.ntmps177];simp,aq9 n s h1 h2⟩
  ·cases hr
 ·cases hr
theorem auH (D:Prop) (B:Nat):aai Tryz.prog D B 177 azb:=by
 refine (auI D B).more λb avs t e hr hp G F w vs hvs=> ?_;unfold azb at hr;split at hr
 ·rename_i l;split at hr
  ·rename_i n s hn;cases hr;obtain⟨h1,_⟩:=hp;refine⟨{ val:=some (.s false [.v (.string (ad8 n))]),ps:=[s<=50000,(limbs n).length<=50000] },?_,⟨h1,?_,trivial⟩,rfl⟩
   ·simp only[azc,hn]
   ·match vs,hvs with
    |[a],hvs=>
     obtain⟨cs,_,k1,k2⟩:=(aac.s (a:=true) (an9 hn)).h _ _ _ _ (hvs.2 0 _ a rfl rfl);match cs,k1,k2 with
     |[c],_,k2=>
      have:=aAb (k2 0 _ c rfl rfl);rw[Int.natAbs_natCast] at this;omega
    |[],hvs=>cases hvs.1
    |_::_::_,hvs=>cases hvs.1
  ·cases hr
 ·cases hr
def adg (x:Int):ByteArray:=if x<0 then ⟨#[45]⟩++ad8 x.natAbs else ad8 x.natAbs
def avR (n:Nat) (b:Bool):ByteArray:=if b=true then ⟨#[45]⟩++ad8 n else ad8 n
def gZt:List (Nat × Run):=[(177,azb)]
theorem axT (D:Prop):∀ p∈gZt,∀ B,aai Tryz.prog D B p.1 p.2:=aad (auH D) λp hp=>by cases hp
theorem awM (n s:Nat) (b:Bool):vc Tryz.prog (lk gZt) Tryz.f128.ntmps [] (Tryz.f128.body.getD .skip) ⟨aao [.s true [.z (n:Int) s 0,.v (.bool b)]] 0,[]⟩ (aaH Tryz.prog Tryz.f128.results.toList (.s false [.v (.string (avR n b))]))=((b=true->s<=50000/\(↑(ByteArray.size { data:= #[(45:UInt8)] } + ByteArray.size (ad8 (↑n:Int).natAbs)):Int)<=(9223372036854775807:Int)/\aac (AV.s false [aaa.v (Value.string ({ data:= #[(45:UInt8)] } ++ ad8 (↑n:Int).natAbs))]) (AV.s false [aaa.v (Value.string (avR n b))]))/\(b=false->s<=50000/\aac (AV.s false [aaa.v (Value.string (ad8 (↑n:Int).natAbs))]) (AV.s false [aaa.v (Value.string (avR n b))]))):=by kernel_rfl
theorem aiM:∀ (l:List Int) (b:ByteArray),(l.foldl (λr x=>r.push (UInt8.ofNat x.toNat)) b).size=b.size+l.length
 |[],b=>rfl
 |x::l,b=>by
  rw[List.foldl_cons,aiM l,ByteArray.size_push,List.length_cons];omega
theorem aiC (n:Nat) (e:Nat->List aaa):(amU n e).size=n:=by
 unfold amU;rw[aiM];simp
theorem aje {n s:Nat} (h:(limbs n).length<=s):(ad8 n).size<=10*s+1:=by
 unfold ad8;split
 ·show (1:Nat)<=_;omega
 ·rw[aiC];have:=ahb h;omega
theorem atN (x:Int):avR x.natAbs (decide (x<0))=adg x:=by
 unfold avR adg;simp only[decide_eq_true_eq]
theorem aer {x:Int} {s:Nat} (h:(limbs x.natAbs).length<=s):(adg x).size<=10*s+2:=by
 have:=aje h;unfold adg;split
 ·rw[ByteArray.size_append];show 1+_<=_;omega
 ·omega
theorem aqi (n s:Nat) (b:Bool) (hs:s<=50000) (hl:(limbs n).length<=50000):vc Tryz.prog (lk gZt) Tryz.f128.ntmps [] (Tryz.f128.body.getD .skip) ⟨aao [.s true [.z (n:Int) s 0,.v (.bool b)]] 0,[]⟩ (aaH Tryz.prog Tryz.f128.results.toList (.s false [.v (.string (avR n b))])):=by
 rw[awM];have hz:=aje hl;have h1:ByteArray.size { data:= #[(45:UInt8)] } =1:=rfl;simp only[Int.natAbs_natCast,h1];refine⟨λhb=>⟨hs,by omega,?_⟩,λhb=>⟨hs,?_⟩⟩
 ·subst hb;exact aac.refl _
 ·subst hb;exact aac.refl _
def zsC:List aaa->Option (Int × Nat × Prop)
 |[.z x s 0,.z y _ 1]=>some (x,s,y=x)
 |[.q x s 0,.q y _ 1]=>some (x.num,s,y=x)
 |_=>none
theorem ar2 {l:List aaa} {x:Int} {s:Nat} {p:Prop} (h:zsC l=some (x,s,p)) (hp:p):aan l [.z (x.natAbs:Int) s 0,.v (.bool (decide (x<0)))]:=by
 unfold zsC at h;split at h
 ·cases h;subst hp;exact aan.cons CLe.zabs (aan.cons CLe.zneg aan.nil)
 ·cases h;subst hp;exact aan.cons CLe.qabs (aan.cons CLe.qneg aan.nil)
 ·cases h
def ayK:Run:=λ_ avs _=>match avs with
 |[.s true l]=>match zsC l with
  |some (x,s,p)=>some { val:=some (.s false [.v (.string (adg x))]),ps:=[p,s<=50000,(limbs x.natAbs).length<=50000] }
  |none=>none
 |_=>none
def ayJ:Run:=λ_ avs _=>match avs with
 |[.s true l]=>match zsC l with
  |some (x,s,p)=>some { val:=some (.s false [.v (.string (adg x))]),ps:=[p,s<=50000] }
  |none=>none
 |_=>none
set_option maxRecDepth 100000 in
theorem atM (D:Prop) (B:Nat):aai Tryz.prog D B 128 ayK:=by
 refine aeM (c:=Tryz.f128.body.getD .skip) (aau (axT D)) (by kernel_rfl) Tryz.func128 (by kernel_rfl) (by kernel_rfl) (λb avs t e hr hp=> ?_) B;unfold ayK at hr;split at hr
 ·rename_i l;split at hr
  ·rename_i x s p hn;cases hr;obtain⟨h0,h1,h2,_⟩:=hp;have hv:=aqi x.natAbs s (decide (x<0)) h1 h2;rw[atN] at hv;exact⟨rfl,_,_,_,rfl,aaj.cons (aac.s (ar2 hn h0)) aaj.nil,by rw[Tryz.ntmps128];simp,hv⟩
  ·cases hr
 ·cases hr
theorem atL (D:Prop) (B:Nat):aai Tryz.prog D B 128 ayJ:=by
 refine (atM D B).more λb avs t e hr hp G F w vs hvs=> ?_;unfold ayJ at hr;split at hr
 ·rename_i l;split at hr
  ·rename_i x s p hn;cases hr;obtain⟨h0,h1,_⟩:=hp;refine⟨{ val:=some (.s false [.v (.string (adg x))]),ps:=[p,s<=50000,(limbs x.natAbs).length<=50000] },?_,⟨h0,h1,?_,trivial⟩,rfl⟩
   ·simp only[ayK,hn]
   ·match vs,hvs with
    |[a],hvs=>
     obtain⟨cs,_,k1,k2⟩:=(aac.s (a:=true) (ar2 hn h0)).h _ _ _ _ (hvs.2 0 _ a rfl rfl);match cs,k1,k2 with
     |[c,d],_,k2=>
      have:=aAb (k2 0 _ c rfl rfl);rw[Int.natAbs_natCast] at this;omega
    |[],hvs=>cases hvs.1
    |_::_::_,hvs=>cases hvs.1
  ·cases hr
 ·cases hr
def aAu:Run:=aeb λavs=>match avs with
 |[u]=>match asQ u with
  |some (x,s,p)=>some (.s true (zC (x.den:Int) s),[p,s<=50000])
  |none=>none
 |_=>none
theorem avw (D:Prop) (B:Nat):aai Tryz.prog D B 61 aAu:=by
 refine aa6 (by kernel_rfl) λavs spec ps hr hp G F w vs hvs=> ?_;split at hr
 ·rename_i u;split at hr
  ·rename_i x s p hx;cases hr;obtain⟨h1,h3,_⟩:=hp;match vs,hvs with
   |[a],hvs=>
    obtain⟨k1,k2⟩:=apS ((adn hx h1).h _ _ _ _ (hvs.2 0 _ a rfl rfl));unfold rl at k2;refine (acm x a w k1 (by omega)).mono ?_;rintro e w' ⟨r,rfl,h4,h5⟩;exact⟨_,rfl,λF'=>aAc h4 (by rw[Int.natAbs_natCast];omega),acV h5⟩
   |[],hvs=>cases hvs.1
   |_::_::_,hvs=>cases hvs.1
  ·cases hr
 ·cases hr
def av9:Run:=aeb λavs=>match avs with
 |[u,v]=>match asZ u,asZ v with
  |some (x,s,p),some (y,t,q)=>some (.s false [.v (.int .i64 (abe x y))],[p,q,s<=50000/\t<=50000])
  |_,_=>none
 |_=>none
theorem aqk (D:Prop) (B:Nat):aai Tryz.prog D B 104 av9:=by
 refine aa6 (by kernel_rfl) λavs spec ps hr hp G F w vs hvs=> ?_;split at hr
 ·rename_i u v;split at hr
  ·rename_i x s p y t q hx hy;cases hr;obtain⟨h1,h2,h3,_⟩:=hp;match vs,hvs with
   |[a,b],hvs=>
    obtain⟨k1,k2⟩:=ayL ((anN hx h1).h _ _ _ _ (hvs.2 0 _ a rfl rfl));obtain⟨k3,k4⟩:=ayL ((anN hy h2).h _ _ _ _ (hvs.2 1 _ b rfl rfl));refine (ak2 x y a b w k1 k3 (by omega) (by omega)).mono ?_;rintro e w' ⟨rfl,h5⟩;exact⟨_,rfl,λF'=>akT,acV h5⟩
   |[],hvs=>cases hvs.1
   |[_],hvs=>cases hvs.1
   |_::_::_::_,hvs=>cases hvs.1
  ·cases hr
 ·cases hr
def adc (x:Rat):ByteArray:=if x.den=1 then adg x.num else adg x.num++⟨#[47]⟩++adg (x.den:Int)
def gRt:List (Nat × Run):=[(61,aAu),(58,ayx),(104,av9),(128,ayJ)]
theorem axZ (D:Prop):∀ p∈gRt,∀ B,aai Tryz.prog D B p.1 p.2:=aad (avw D) (aad (ajC D) (aad (aqk D) (aad (atL D) λp hp=>by cases hp)))
theorem aw1 (x:Rat) (s:Nat):vc Tryz.prog (lk gRt) Tryz.f69.ntmps [] (Tryz.f69.body.getD .skip) ⟨aao [.s true (qC x s)] 0,[]⟩ (aaH Tryz.prog Tryz.f69.results.toList (.s false [.v (.string (adc x))]))=(SmC (qsC [(x,s)])/\s<=50000/\abB (1:Int)/\aan [aaa.z (↑(Rat.den x):Int) s 0,aaa.z (↑(Rat.den x):Int) s 1] [aaa.z (↑(Rat.den x):Int) s 0,aaa.z (↑(Rat.den x):Int) s 1]/\aan [aaa.z (1:Int) 2 0,aaa.z (1:Int) 2 1] [aaa.z (1:Int) 2 0,aaa.z (1:Int) 2 1]/\(s<=50000/\2<=50000)/\((abe (↑(Rat.den x):Int) (1:Int) != (0:Int))=true->x=x/\s<=50000/\(↑(ByteArray.size (adg (Rat.num x))+ByteArray.size { data:= #[(47:UInt8)] }):Int)<=(9223372036854775807:Int)/\(↑(Rat.den x):Int)=(↑(Rat.den x):Int)/\s<=50000/\(↑(ByteArray.size (adg (Rat.num x) ++ { data:= #[(47:UInt8)] })+ByteArray.size (adg (↑(Rat.den x):Int))):Int)<=(9223372036854775807:Int)/\aac (AV.s false [aaa.v (Value.string (adg (Rat.num x) ++ { data:= #[(47:UInt8)] } ++ adg (↑(Rat.den x):Int)))]) (AV.s false [aaa.v (Value.string (adc x))]))/\((abe (↑(Rat.den x):Int) (1:Int) != (0:Int))=false->x=x/\s<=50000/\aac (AV.s false [aaa.v (Value.string (adg (Rat.num x)))]) (AV.s false [aaa.v (Value.string (adc x))]))):=by kernel_rfl
theorem aow (x y:Int):(abe x y != 0)=decide (x≠y):=by
 unfold abe;rcases Int.lt_trichotomy x y with h | h | h
 ·have h2:x≠y:=by omega
  simp[h,h2]
 ·simp[h]
 ·have h2:x≠y:=by omega
  have h3:¬ x<y:=by omega
  simp[h3,h2,h]
theorem aiJ {x:Rat} {s:Nat} (h:rl x<=s):(adc x).size<=20*s+5:=by
 unfold rl at h;have h1:=aer (x:=x.num) (s:=s) (by omega);have h2:=aer (x:=(x.den:Int)) (s:=s) (by rw[Int.natAbs_natCast];omega);unfold adc;split
 ·omega
 ·rw[ByteArray.size_append,ByteArray.size_append];show _+1+_<=_;omega
theorem aqF (x:Rat) (s:Nat) (hs:s<=50000) (hl:rl x<=50000):vc Tryz.prog (lk gRt) Tryz.f69.ntmps [] (Tryz.f69.body.getD .skip) ⟨aao [.s true (qC x s)] 0,[]⟩ (aaH Tryz.prog Tryz.f69.results.toList (.s false [.v (.string (adc x))])):=by
 rw[aw1];have hx:=hl;unfold rl at hx;have h1:=aer (x:=x.num) (s:=50000) (by omega);have h2:=aer (x:=(x.den:Int)) (s:=50000) (by rw[Int.natAbs_natCast];omega);have h3:ByteArray.size { data:= #[(47:UInt8)] } =1:=rfl;have h4:abB 1:=by unfold abB;omega
 simp only[SmC,aaZ,true_and,hs,h4,h3,aow,ByteArray.size_append,decide_eq_true_eq,decide_eq_false_iff_not];refine⟨by omega,λh=>⟨by omega,by omega,?_⟩,λh=> ?_⟩
 ·have:adc x=adg x.num++⟨#[47]⟩++adg (x.den:Int):=by unfold adc;rw[if_neg (by omega)]
  rw[this];exact aac.refl _
 ·have:adc x=adg x.num:=by unfold adc;rw[if_pos (by omega)]
  rw[this];exact aac.refl _
def ayX:Run:=λ_ avs _=>match avs with
 |[u]=>match asQ u with
  |some (x,s,p)=>some { val:=some (.s false [.v (.string (adc x))]),ps:=[p,s<=50000,rl x<=50000] }
  |none=>none
 |_=>none
def ayW:Run:=λ_ avs _=>match avs with
 |[u]=>match asQ u with
  |some (x,s,p)=>some { val:=some (.s false [.v (.string (adc x))]),ps:=[p,s<=50000] }
  |none=>none
 |_=>none
set_option maxRecDepth 100000 in
theorem auj (D:Prop) (B:Nat):aai Tryz.prog D B 69 ayX:=by
 refine aeM (c:=Tryz.f69.body.getD .skip) (aau (axZ D)) (by kernel_rfl) Tryz.func69 (by kernel_rfl) (by kernel_rfl) (λb avs t e hr hp=> ?_) B;unfold ayX at hr;split at hr
 ·rename_i u;split at hr
  ·rename_i x s p hn;cases hr;obtain⟨h0,h1,h2,_⟩:=hp;exact⟨rfl,_,_,_,rfl,aaj.cons (adn hn h0) aaj.nil,by rw[Tryz.ntmps69];simp,aqF x s h1 h2⟩
  ·cases hr
 ·cases hr
theorem aui (D:Prop) (B:Nat):aai Tryz.prog D B 69 ayW:=by
 refine (auj D B).more λb avs t e hr hp G F w vs hvs=> ?_;unfold ayW at hr;split at hr
 ·rename_i u;split at hr
  ·rename_i x s p hn;cases hr;obtain⟨h0,h1,_⟩:=hp;refine⟨{ val:=some (.s false [.v (.string (adc x))]),ps:=[p,s<=50000,rl x<=50000] },?_,⟨h0,h1,?_,trivial⟩,rfl⟩
   ·simp only[ayX,hn]
   ·match vs,hvs with
    |[a],hvs=>
     obtain⟨k1,k2⟩:=apS ((adn hn h0).h _ _ _ _ (hvs.2 0 _ a rfl rfl));omega
    |[],hvs=>cases hvs.1
    |_::_::_,hvs=>cases hvs.1
  ·cases hr
 ·cases hr
def ptT (p:Pq):ByteArray:=adc p.1++⟨#[32]⟩++adc p.2
def gPx:List (Nat × Run):=[(69,ayW)]
theorem ax1 (D:Prop):∀ p∈gPx,∀ B,aai Tryz.prog D B p.1 p.2:=aad (aui D) λp hp=>by cases hp
theorem axb (p:Pq) (s:Nat):vc Tryz.prog (lk gPx) Tryz.f24.ntmps [] (Tryz.f24.body.getD .skip) ⟨aao [.s true (ptC p s)] 0,[]⟩ (aaH Tryz.prog Tryz.f24.results.toList (.s false [.v (.string (ptT p))]))=(SmC (qsC [(p.1,s)])/\s<=50000/\(↑(ByteArray.size (adc p.1)+ByteArray.size { data:= #[(32:UInt8)] }):Int)<=(9223372036854775807:Int)/\SmC (qsC [(p.2,s)])/\s<=50000/\(↑(ByteArray.size (adc p.1 ++ { data:= #[(32:UInt8)] })+ByteArray.size (adc p.2)):Int)<=(9223372036854775807:Int)/\aac (AV.s false [aaa.v (Value.string (adc p.1 ++ { data:= #[(32:UInt8)] } ++ adc p.2))]) (AV.s false [aaa.v (Value.string (ptT p))])):=by kernel_rfl
theorem aqP (p:Pq) (s:Nat) (hs:s<=50000) (h1:rl p.1<=50000) (h2:rl p.2<=50000):vc Tryz.prog (lk gPx) Tryz.f24.ntmps [] (Tryz.f24.body.getD .skip) ⟨aao [.s true (ptC p s)] 0,[]⟩ (aaH Tryz.prog Tryz.f24.results.toList (.s false [.v (.string (ptT p))])):=by
 rw[axb];have k1:=aiJ h1;have k2:=aiJ h2;have h3:ByteArray.size { data:= #[(32:UInt8)] } =1:=rfl;simp only[SmC,aaZ,true_and,hs,h3,ByteArray.size_append];exact⟨by omega,by omega,aac.refl _⟩
def ay4:Run:=λ_ avs _=>match avs with
 |[.s true l]=>match apX l with
  |some [(x,s),(y,t)]=>some { val:=some (.s false [.v (.string (ptT (x,y)))]),ps:=[aan l (ptC (x,y) (max s t)),max s t<=50000,rl x<=50000,rl y<=50000] }
  |_=>none
 |_=>none
def ayA:Run:=λ_ avs _=>match avs with
 |[.s true l]=>match apX l with
  |some [(x,s),(y,t)]=>some { val:=some (.s false [.v (.string (ptT (x,y)))]),ps:=[aan l (ptC (x,y) (max s t)),max s t<=50000] }
  |_=>none
 |_=>none
set_option maxRecDepth 100000 in
theorem aus (D:Prop) (B:Nat):aai Tryz.prog D B 24 ay4:=by
 refine aeM (c:=Tryz.f24.body.getD .skip) (aau (ax1 D)) (by kernel_rfl) Tryz.func24 (by kernel_rfl) (by kernel_rfl) (λb avs t e hr hp=> ?_) B;unfold ay4 at hr;split at hr
 ·rename_i l;split at hr
  ·rename_i x s y t hn;cases hr;obtain⟨h0,h1,h2,h3,_⟩:=hp;exact⟨rfl,_,_,_,rfl,aaj.cons (aac.s h0) aaj.nil,by rw[Tryz.ntmps24];simp,aqP (x,y) _ h1 h2 h3⟩
  ·cases hr
 ·cases hr
theorem an1 (D:Prop) (B:Nat):aai Tryz.prog D B 24 ayA:=by
 refine (aus D B).more λb avs t e hr hp G F w vs hvs=> ?_;unfold ayA at hr;split at hr
 ·rename_i l;split at hr
  ·rename_i x s y t hn;cases hr;obtain⟨h0,h1,_⟩:=hp;refine⟨{ val:=some (.s false [.v (.string (ptT (x,y)))]),ps:=[aan l (ptC (x,y) (max s t)),max s t<=50000,rl x<=50000,rl y<=50000] },?_,⟨h0,h1,?_⟩,rfl⟩
   ·simp only[ay4,hn]
   ·match vs,hvs with
    |[a],hvs=>
     obtain⟨cs,_,k1,k2⟩:=(aac.s (a:=true) h0).h _ _ _ _ (hvs.2 0 _ a rfl rfl);match cs,k1,k2 with
     |[c0,c1,c2,c3,c4,c5,c6,c7],_,k2=>
      have q1:rl x<=max s t:=aAg (k2 0 _ c0 rfl rfl);have q2:rl y<=max s t:=aAg (k2 4 _ c4 rfl rfl);exact⟨by omega,by omega,trivial⟩
    |[],hvs=>cases hvs.1
    |_::_::_,hvs=>cases hvs.1
  ·cases hr
 ·cases hr
end Go.Proofs.YtcmplpkmfbhpdaaGreat
