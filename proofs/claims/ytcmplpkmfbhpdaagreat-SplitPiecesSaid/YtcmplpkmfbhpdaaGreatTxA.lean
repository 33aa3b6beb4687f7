import Derived.Test.YtcmplpkmfbhpdaaGreatSpX
namespace Go.Proofs.YtcmplpkmfbhpdaaGreat
open Go Go.RowKit
def byC:Run:=aeb λavs=>match avs with
 |[.s false [.z x s 0],.s false [.v (.int .u32 d)]]=>some (.tup [(false,[.z (x/d) s 2]),(false,[.v (.int .u32 (x%d))])],[0<=x,s<=50000,0<d/\d<4294967296])
 |_=>none
theorem ayl (D:Prop) (B:Nat):aai Tryz.prog D B 207 byC:=by
 refine aa6 (by kernel_rfl) λavs spec ps hr hp G F w vs hvs=> ?_;split at hr
 ·rename_i x s d;cases hr;obtain⟨h0,hs,hd,_⟩:=hp;match vs,hvs with
  |[a,b],hvs=>
   have k1:COk F w (.z x s 0) a:=(aal (hvs.2 0 _ a rfl rfl):GOk G F w (.z x s 0) a)
   have k2:=(abm (aal (hvs.2 1 _ b rfl rfl))).1;subst k2;cases k1 with
   |z hz hl=>
    obtain⟨p,rfl,hr⟩:=hz;obtain⟨d,rfl⟩:∃ n:Nat,d=(n:Int):=⟨d.toNat,by omega⟩
    refine (asT (limbs x.natAbs) p _ d w (limbs_limb _) hr (by omega) (by omega) (by omega)).mono ?_;rintro e w' ⟨q,r,o,rfl,h1,h2,h3,h4,h5,h6⟩;rw[val_limbs] at h4 h5;have e1:((x.natAbs/d:Nat):Int)=x/(d:Int):=by rw[Int.natCast_ediv,Int.natAbs_of_nonneg h0]
    have e2:((x.natAbs%d:Nat):Int)=x%(d:Int):=by rw[Int.natCast_emod,Int.natAbs_of_nonneg h0]
    have e3:(x/(d:Int)).natAbs=x.natAbs/d:=by rw[<- e1,Int.natAbs_natCast]
    refine⟨_,rfl,λF'=>ajH ⟨_,rfl,GOk.of (.z ⟨?_,o,q,?_,h1,h3,?_,?_⟩ ?_)⟩ ?_,acV h6⟩
    ·rw[<- e1];omega
    ·rw[h2]
    ·omega
    ·rw[e3];exact h4
    ·rw[e3];exact Nat.le_trans (limbs_mono (Nat.div_le_self _ _)) hl
    ·rw[h5,e2];exact aaG (GOk.of (.v _ rfl))
  |[],hvs=>cases hvs.1
  |[_],hvs=>cases hvs.1
  |_::_::_::_,hvs=>cases hvs.1
 ·cases hr
def aAv:Run:=aeb λavs=>match avs with
 |[.s false [.z x s 2]]=>some (.s true [.z x s 0],[])
 |_=>none
theorem avx (D:Prop) (B:Nat):aai Tryz.prog D B 169 aAv:=by
 refine aa6 (by kernel_rfl) λavs spec ps hr hp G F w vs hvs=> ?_;split at hr
 ·rename_i x s;cases hr;match vs,hvs with
  |[a],hvs=>
   have k1:COk F w (.z x s 2) a:=(aal (hvs.2 0 _ a rfl rfl):GOk G F w (.z x s 2) a)
   cases k1 with
   |z hz hl=>
    obtain⟨h0,ls,p,rfl,hr,h1,h2,h3⟩:=hz;refine (ake ls p ls.length w h1 hr (Nat.le_refl _) h2).mono ?_;rintro e w' ⟨v,rfl,⟨q,rfl,h4⟩,h6⟩;rw[h3] at h4 ⊢;exact⟨_,rfl,λF'=>⟨_,rfl,rfl,λi c u h5 h7=>by
     match i,h5,h7 with
     |0,h5,h7=>cases h5;cases h7;exact GOk.of (.z ⟨q,rfl,h4⟩ hl)⟩,acV h6⟩
  |[],hvs=>cases hvs.1
  |_::_::_,hvs=>cases hvs.1
 ·cases hr
def agH (l:List Int):Nat->List aaa:=λi=>[.v (.int .u8 (l.getD i 0))]
def ack (n:Nat) (e:Nat->List aaa):List Int:=(List.range n).map λi=>afF (e i)
def anX (l:List Int):abW:=⟨Nat,λi=>2*i<=l.length,λi=>⟨[(0,.s false [.hd 1000000]),(2,.s false [.v (.int .i64 i)]),(3,.s false [.v (.int .i64 ((l.length:Int)-1-i))])],[(1000000,.row 5 1 l.length λj=>[.v (.int .u8 (if j<i\/l.length<=j+i then l.getD (l.length-1-j) 0 else l.getD j 0))])]⟩,λi=>l.length-i,[],[],none⟩
abbrev awh (l:List Int):Prop:=vc Tryz.prog (lk []) Tryz.f214.ntmps [(1,anX l)] (Tryz.f214.body.getD .skip) (⟨aao [.s false [.hd 1000000]] 0,[(1000000,.row 5 1 l.length (agH l))]⟩) (asX Tryz.prog Tryz.f214.results.toList [1000000] (.tup []) [(1000000,.row 5 1 l.length (agH l.reverse))])
theorem aw5 (l:List Int):awh l=(let k3:=(1:Int);let k4:=(0:Int);let k5:=l.length;let k6:=λ(zz:Nat)=>(↑zz:Int);let k8:=AV.s false [aaa.hd 1000000];let k9:=λ(zz:Nat)=>(l.length-1-zz);let k10:=λ(zz:Nat)=>(AV.s false [aaa.v (Value.int IntKind.i64 (k6 zz))]);let k1:=λ(zz:Nat)=>(Value.int IntKind.u8 (if (k6 zz).toNat<zz\/l.length<=(k6 zz).toNat+zz then List.getD l (l.length-1-(k6 zz).toNat) k4 else List.getD l (k6 zz).toNat k4));let k2:=(↑k5:Int);let k7:=λ(zz:Nat)=>(AV.s false [aaa.v (Value.int IntKind.i64 (k2-k3-(k6 zz)))]);let k0:=λ(zz:Nat)=>(Value.int IntKind.u8 (if (k2-k3-(k6 zz)).toNat<zz\/l.length<=(k2-k3-(k6 zz)).toNat+zz then List.getD l (l.length-1-(k2-k3-(k6 zz)).toNat) k4 else List.getD l (k2-k3-(k6 zz)).toNat k4));let p0:=λ(i:Nat)(Z:Prop)=>(k4<=k2-k3-(k6 i)/\k2-k3-(k6 i)<k2)/\(k2-k3-(k6 i)).toNat<l.length/\Z;let p1:=λ(i:Nat)(Z:Prop)=>(k4<=(k6 i)/\(k6 i)<k2)/\(k6 i).toNat<l.length/\Z;(Exists λ(i:Nat)=>2*i<=l.length/\(SmA k8/\aac (AV.s false [aaa.v (Value.int IntKind.i64 k4)]) (k10 i)/\aac (AV.s false [aaa.v (Value.int IntKind.i64 (IntKind.wrap IntKind.i64 (k2-k3)))]) (k7 i)/\True)/\aaf (aae.row 5 1 k5 λ(a:Nat)=>[aaa.v (Value.int IntKind.u8 (List.getD l a k4))]) (aae.row 5 1 k5 λ(j:Nat)=>[aaa.v (Value.int IntKind.u8 (if j<i\/l.length<=j+i then List.getD l (k9 j) k4 else List.getD l j k4))])/\True)/\∀ (i:Nat),2*i<=l.length->(decide ((k6 i)<k2-k3-(k6 i))=true->p0 i (p1 i (p1 i (p0 i (Exists λ(i':Nat)=>2*i'<=l.length/\l.length-i'<l.length-i/\(SmA k8/\aac (AV.s false [aaa.v (Value.int IntKind.i64 (IntKind.wrap IntKind.i64 ((k6 i)+k3)))]) (k10 i')/\aac (AV.s false [aaa.v (Value.int IntKind.i64 (IntKind.wrap IntKind.i64 (k2-k3-(k6 i)-k3)))]) (k7 i')/\True)/\aaf (aae.row 5 1 k5 λ(j:Nat)=>if j=(k2-k3-(k6 i)).toNat then aaa.v (k1 i)::(List.drop (0+List.length [aaa.v (k1 i)]) (if (k2-k3-(k6 i)).toNat=(k6 i).toNat then List.take 0 [aaa.v (k1 i)]++[aaa.v (k0 i)]++List.drop (0+List.length [aaa.v (k0 i)]) [aaa.v (k1 i)] else [aaa.v (k0 i)])) else if j=(k6 i).toNat then [aaa.v (k0 i)] else [aaa.v (Value.int IntKind.u8 (if j<i\/l.length<=j+i then List.getD l (k9 j) k4 else List.getD l j k4))]) (aae.row 5 1 k5 λ(j:Nat)=>[aaa.v (Value.int IntKind.u8 (if j<i'\/l.length<=j+i' then List.getD l (k9 j) k4 else List.getD l j k4))])/\True)))))/\(decide ((k6 i)<k2-k3-(k6 i))=false->SmA (AV.tup [])/\aaf (aae.row 5 1 k5 λ(j:Nat)=>[aaa.v (Value.int IntKind.u8 (if j<i\/l.length<=j+i then List.getD l (k9 j) k4 else List.getD l j k4))]) (aae.row 5 1 k5 λ(a:Nat)=>[aaa.v (Value.int IntKind.u8 (List.getD (List.reverse l) a k4))])/\True)):=by kernel_rfl
theorem avD (l:List Int) (i:Nat):(agH l i).all aaa.cl=true:=rfl
theorem aac.intN {k:IntKind} {x y:Int} (h:x=y):aac (.s false [.v (.int k x)]) (.s false [.v (.int k y)]):=by subst h;exact aac.refl _
theorem aix {x y:Int} (h:x=y):aan [.v (.int .u8 x)] [.v (.int .u8 y)]:=by subst h;exact aan.refl _
set_option maxRecDepth 100000 in
theorem aqM (l:List Int) (hn:l.length<=1000000000000):awh l:=by
 rw[aw5];simp only[SmA,aaP,true_and,and_true,decide_eq_true_eq,decide_eq_false_iff_not,Int.toNat_natCast];refine⟨⟨0,Nat.zero_le _,⟨aac.int rfl,aac.int (by rw[IntKind.wrap_i64];omega)⟩,aaf.row rfl (λj hj=> ?_) (λ_ _=>rfl)⟩,λi hi=>⟨λhlt=> ?_,λhge=> ?_⟩⟩
 ·rw[if_neg (by omega)];exact aan.refl _
 ·have e1:((l.length:Int)-1-(i:Int)).toNat=l.length-1-i:=by omega
  have hne:l.length-1-i≠i:=by omega
  simp only[e1,hne,if_false];refine⟨by omega,by omega,by omega,by omega,by omega,by omega,by omega,by omega,i+1,by omega,by omega,⟨aac.int (by rw[IntKind.wrap_i64];omega),aac.int (by rw[IntKind.wrap_i64];omega)⟩,aaf.row rfl (λj hj=> ?_) (λ_ _=>rfl)⟩;show aan (if j=_ then _ else _) _;by_cases h1:j=l.length-1-i
  ·rw[if_pos h1,if_pos (show j<i+1\/l.length<=j+(i+1) by omega),if_neg (show ¬ (i<i\/l.length<=i+i) by omega)];exact aix (by congr 1;omega)
  ·by_cases h2:j=i
   ·rw[if_neg h1,if_pos h2,if_pos (show j<i+1\/l.length<=j+(i+1) by omega),if_neg (show ¬ (l.length-1-i<i\/l.length<=l.length-1-i+i) by omega)];exact aix (by rw[h2])
   ·rw[if_neg h1,if_neg h2];by_cases h3:j<i\/l.length<=j+i
    ·rw[if_pos h3,if_pos (by omega)];exact aan.refl _
    ·rw[if_neg h3,if_neg (by omega)];exact aan.refl _
 ·refine aaf.row rfl (λj hj=> ?_) (λ_ _=>rfl);have e:l.reverse.getD j 0=l.getD (l.length-1-j) 0:=by simp[List.getD,List.getElem?_reverse hj]
  rw[e];by_cases h3:j<i\/l.length<=j+i
  ·rw[if_pos h3];exact aan.refl _
  ·rw[if_neg h3];exact aix (by congr 1;omega)
theorem apL (n:Nat) (e:Nat->List aaa):(ack n e).length=n:=by simp[ack]
theorem akg {l:List Int} : ack l.length (agH l)=l:=by
 apply List.ext_getElem?;intro i;unfold ack;rw[List.getElem?_map];rcases Nat.lt_or_ge i l.length with hi | hi
 ·rw[List.getElem?_range hi,List.getElem?_eq_getElem hi];show some (afF (agH l i))=some l[i];simp only[afF,agH,List.getD,List.getElem?_eq_getElem hi,Option.getD_some]
 ·rw[List.getElem?_eq_none (by simpa using hi),List.getElem?_eq_none hi];rfl
def ayZ:Run:=λb avs _=>match avs with
 |[.s false [.hd k]]=>match b k with
  |some (.row T 1 n e)=>match Nat.beq T 5 with
   |true=>some { val:=some (.tup []),set:=[(k,.row 5 1 (ack n e).length (agH (ack n e).reverse))],ps:=[∀ i,i<n->aan (e i) (agH (ack n e) i),n<=1000000000000] }
   |false=>none
  |_=>none
 |_=>none
set_option maxRecDepth 100000 in
theorem aw6 (D:Prop) (B:Nat):aai Tryz.prog D B 214 ayZ:=by
 refine anC (c:=Tryz.f214.body.getD .skip) (Γ :=lk []) (λ_ _ _ h=>by cases h) (by kernel_rfl) Tryz.func214 (by kernel_rfl) (by kernel_rfl) ?_ B;intro b avs t e h hp;unfold ayZ at h;split at h
 ·rename_i k;split at h
  ·rename_i T n e hb;split at h
   ·rename_i hc;cases h;have:=aaq hc;subst this;obtain⟨hp1,hp2,_⟩:=hp;have hl:=apL n e;have hle1:(ack n e).length<=1000000000000:=by rw[hl];exact hp2
    have hset1:∃ b',lk [(k,aae.row 5 1 (ack n e).length (agH (ack n e).reverse))] k=some b':=⟨_,by simp only[lk,Nat.beq_refl];rfl⟩
    exact⟨{
     σ :=[(1000000,k)]
     ρ :=[(1000000,k)]
     avs':=[.s false [.hd 1000000]]
     blks:=[(1000000,.row 5 1 (ack n e).length (agH (ack n e)))]
     inv:=[(1,anX (ack n e))]
     val:= .tup []
     kb:=[(1000000,.row 5 1 (ack n e).length (agH (ack n e).reverse))]
     hval:=rfl
     hset:=λx b' h=>by obtain⟨rfl,rfl⟩:=aaO h;exact⟨1000000,_,rfl,rfl,rfl⟩
     hkb:=λj x h=>by
      obtain⟨rfl,rfl⟩:=aaO h;exact⟨_,rfl,rfl,(λk hk=>by cases hk),hset1⟩
     hvn:=λk hk=>by cases hk
     hρ :=λj j' x h1 h2=>(aaO h1).1.symm.trans (aaO h2).1
     hσ :=λj j' x h1 h2=>(aaO h1).1.symm.trans (aaO h2).1
     hhi:=λj x h=>by obtain⟨e,_⟩:=aaO h;omega
     hnw:=λj x h=> .inr h
     hold:=λj x h=> .inl ⟨j,h⟩
     hle:=aaj.refl _
     hlen:=by rw[Tryz.ntmps214];simp
     hblk:=λj b0 h=>by
      obtain⟨rfl,rfl⟩:=aaO h;exact⟨rfl,k,rfl,_,hb,aaf.row hl.symm hp1 (λi _=>avD _ _)⟩
     hvc:=aqM _ hle1 }⟩
   ·cases h
  ·cases h
 ·cases h
end Go.Proofs.YtcmplpkmfbhpdaaGreat
