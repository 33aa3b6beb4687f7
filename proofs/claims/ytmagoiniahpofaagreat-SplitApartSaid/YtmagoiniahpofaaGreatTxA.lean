/-
  texts of numbers, points. (Printed by gen_txa.py.)
-/
import Derived.Test.YtmagoiniahpofaaGreatSpX
namespace Go.Proofs.YtmagoiniahpofaaGreat
open Go Go.RowKit
def byC:Run:=pureC fun avs=>match avs with
 |[.s false [.z x s 0],.s false [.v (.int .u32 d)]]=>some (.tup [(false,[.z (x/d) s 2]),(false,[.v (.int .u32 (x%d))])],[0≤x,s≤50000,0<d∧d<4294967296])
 |_=>none
theorem byC_ok (D:Prop) (B:Nat):RunOK Tryz.prog D B 108 byC:=by
 refine runOK_pure (by kernel_rfl) fun avs spec ps hr hp G F w vs hvs=> ?_
 split at hr
 ·rename_i x s d
  cases hr
  obtain⟨h0,hs,hd,_⟩:=hp
  match vs,hvs with
  |[a,b],hvs=>
   have k1:COk F w (.z x s 0) a:=(one_inv (hvs.2 0 _ a rfl rfl):GOk G F w (.z x s 0) a)
   have k2:=(v_inv (one_inv (hvs.2 1 _ b rfl rfl))).1
   subst k2
   cases k1 with
   |z hz hl=>
    obtain⟨p,rfl,hr⟩:=hz
    obtain⟨d,rfl⟩:∃ n:Nat,d=(n:Int):=⟨d.toNat,by omega⟩
    refine (by_any (limbs x.natAbs) p _ d w (limbs_limb _) hr (by omega) (by omega) (by omega)).mono ?_
    rintro e w' ⟨q,r,o,rfl,h1,h2,h3,h4,h5,h6⟩
    rw[val_limbs] at h4 h5
    have e1:((x.natAbs/d:Nat):Int)=x/(d:Int):=by rw[Int.natCast_ediv,Int.natAbs_of_nonneg h0]
    have e2:((x.natAbs%d:Nat):Int)=x%(d:Int):=by rw[Int.natCast_emod,Int.natAbs_of_nonneg h0]
    have e3:(x/(d:Int)).natAbs=x.natAbs/d:=by rw[← e1,Int.natAbs_natCast]
    refine⟨_,rfl,fun F'=>tup2_ok ⟨_,rfl,GOk.of (.z ⟨?_,o,q,?_,h1,h3,?_,?_⟩ ?_)⟩ ?_,own_own h6⟩
    ·rw[← e1];omega
    ·rw[h2]
    ·omega
    ·rw[e3];exact h4
    ·rw[e3]
     exact Nat.le_trans (limbs_mono (Nat.div_le_self _ _)) hl
    ·rw[h5,e2]
     exact one_ok (GOk.of (.v _ rfl))
  |[],hvs=>cases hvs.1
  |[_],hvs=>cases hvs.1
  |_::_::_::_,hvs=>cases hvs.1
 ·cases hr
def cutC:Run:=pureC fun avs=>match avs with
 |[.s false [.z x s 2]]=>some (.s true [.z x s 0],[])
 |_=>none
theorem cutC_ok (D:Prop) (B:Nat):RunOK Tryz.prog D B 89 cutC:=by
 refine runOK_pure (by kernel_rfl) fun avs spec ps hr hp G F w vs hvs=> ?_
 split at hr
 ·rename_i x s
  cases hr
  match vs,hvs with
  |[a],hvs=>
   have k1:COk F w (.z x s 2) a:=(one_inv (hvs.2 0 _ a rfl rfl):GOk G F w (.z x s 2) a)
   cases k1 with
   |z hz hl=>
    obtain⟨h0,ls,p,rfl,hr,h1,h2,h3⟩:=hz
    refine (cut_any ls p ls.length w h1 hr (Nat.le_refl _) h2).mono ?_
    rintro e w' ⟨v,rfl,⟨q,rfl,h4⟩,h6⟩
    rw[h3] at h4 ⊢
    exact⟨_,rfl,fun F'=>⟨_,rfl,rfl,fun i c u h5 h7=>by
     match i,h5,h7 with
     |0,h5,h7=>cases h5;cases h7;exact GOk.of (.z ⟨q,rfl,h4⟩ hl)⟩,own_own h6⟩
  |[],hvs=>cases hvs.1
  |_::_::_,hvs=>cases hvs.1
 ·cases hr
def bytE (l:List Int):Nat→List Cell:=fun i=>[.v (.int .u8 (l.getD i 0))]
def bytsL (n:Nat) (e:Nat→List Cell):List Int:=(List.range n).map fun i=>byteAt (e i)
def rev_inv (l:List Int):LInv:=⟨Nat,fun i=>2*i≤l.length,fun i=>⟨[(0,.s false [.hd 1000000]),(2,.s false [.v (.int .i64 i)]),(3,.s false [.v (.int .i64 ((l.length:Int)-1-i))])],[(1000000,.row 5 1 l.length fun j=>[.v (.int .u8 (if j<i∨l.length≤j+i then l.getD (l.length-1-j) 0 else l.getD j 0))])]⟩,fun i=>l.length-i,[],[],none⟩
theorem rev_vc (l:List Int):vc Tryz.prog (lk []) Tryz.f109.ntmps [(1,rev_inv l)] (Tryz.f109.body.getD .skip) (⟨entryS [.s false [.hd 1000000]] 0,[(1000000,.row 5 1 l.length (bytE l))]⟩) (retO Tryz.prog Tryz.f109.results.toList [1000000] (.tup []) [(1000000,.row 5 1 l.length (bytE l.reverse))])=(let k3:=(1:Int);let k4:=(0:Int);let k5:=List.length l;let k6:=fun (zz:Nat)=>(↑zz:Int);let k8:=AV.s false [Cell.hd 1000000];let k9:=fun (zz:Nat)=>(List.length l-1-zz);let k10:=fun (zz:Nat)=>(AV.s false [Cell.v (Value.int IntKind.i64 (k6 zz))]);let k1:=fun (zz:Nat)=>(Value.int IntKind.u8 (if Int.toNat (k6 zz)<zz∨List.length l≤Int.toNat (k6 zz)+zz then List.getD l (List.length l-1-Int.toNat (k6 zz)) k4 else List.getD l (Int.toNat (k6 zz)) k4));let k2:=(↑k5:Int);let k7:=fun (zz:Nat)=>(AV.s false [Cell.v (Value.int IntKind.i64 (k2-k3-(k6 zz)))]);let k0:=fun (zz:Nat)=>(Value.int IntKind.u8 (if Int.toNat (k2-k3-(k6 zz))<zz∨List.length l≤Int.toNat (k2-k3-(k6 zz))+zz then List.getD l (List.length l-1-Int.toNat (k2-k3-(k6 zz))) k4 else List.getD l (Int.toNat (k2-k3-(k6 zz))) k4));(Exists fun (i:Nat)=>2*i≤List.length l∧(SmA k8∧AVle (AV.s false [Cell.v (Value.int IntKind.i64 k4)]) (k10 i)∧AVle (AV.s false [Cell.v (Value.int IntKind.i64 (IntKind.wrap IntKind.i64 (k2-k3)))]) (k7 i)∧True)∧ABle (ABlk.row 5 1 k5 fun (a:Nat)=>[Cell.v (Value.int IntKind.u8 (List.getD l a k4))]) (ABlk.row 5 1 k5 fun (j:Nat)=>[Cell.v (Value.int IntKind.u8 (if j<i∨List.length l≤j+i then List.getD l (k9 j) k4 else List.getD l j k4))])∧True)∧∀ (i:Nat),2*i≤List.length l→(decide ((k6 i)<k2-k3-(k6 i))=true→(k4≤k2-k3-(k6 i)∧k2-k3-(k6 i)<k2)∧Int.toNat (k2-k3-(k6 i))<List.length l∧(k4≤(k6 i)∧(k6 i)<k2)∧Int.toNat (k6 i)<List.length l∧(k4≤(k6 i)∧(k6 i)<k2)∧Int.toNat (k6 i)<List.length l∧(k4≤k2-k3-(k6 i)∧k2-k3-(k6 i)<k2)∧Int.toNat (k2-k3-(k6 i))<List.length l∧Exists fun (i':Nat)=>2*i'≤List.length l∧List.length l-i'<List.length l-i∧(SmA k8∧AVle (AV.s false [Cell.v (Value.int IntKind.i64 (IntKind.wrap IntKind.i64 ((k6 i)+k3)))]) (k10 i')∧AVle (AV.s false [Cell.v (Value.int IntKind.i64 (IntKind.wrap IntKind.i64 (k2-k3-(k6 i)-k3)))]) (k7 i')∧True)∧ABle (ABlk.row 5 1 k5 fun (j:Nat)=>if j=Int.toNat (k2-k3-(k6 i)) then Cell.v (k1 i)::(List.drop (0+List.length [Cell.v (k1 i)]) (if Int.toNat (k2-k3-(k6 i))=Int.toNat (k6 i) then List.take 0 [Cell.v (k1 i)]++[Cell.v (k0 i)]++List.drop (0+List.length [Cell.v (k0 i)]) [Cell.v (k1 i)] else [Cell.v (k0 i)])) else if j=Int.toNat (k6 i) then [Cell.v (k0 i)] else [Cell.v (Value.int IntKind.u8 (if j<i∨List.length l≤j+i then List.getD l (k9 j) k4 else List.getD l j k4))]) (ABlk.row 5 1 k5 fun (j:Nat)=>[Cell.v (Value.int IntKind.u8 (if j<i'∨List.length l≤j+i' then List.getD l (k9 j) k4 else List.getD l j k4))])∧True)∧(decide ((k6 i)<k2-k3-(k6 i))=false→SmA (AV.tup [])∧ABle (ABlk.row 5 1 k5 fun (j:Nat)=>[Cell.v (Value.int IntKind.u8 (if j<i∨List.length l≤j+i then List.getD l (k9 j) k4 else List.getD l j k4))]) (ABlk.row 5 1 k5 fun (a:Nat)=>[Cell.v (Value.int IntKind.u8 (List.getD (List.reverse l) a k4))])∧True)):=by kernel_rfl
theorem bytE_cl (l:List Int) (i:Nat):(bytE l i).all Cell.cl=true:=rfl
theorem AVle.intN {k:IntKind} {x y:Int} (h:x=y):AVle (.s false [.v (.int k x)]) (.s false [.v (.int k y)]):=by subst h;exact AVle.refl _
theorem byt_le {x y:Int} (h:x=y):CsLe [.v (.int .u8 x)] [.v (.int .u8 y)]:=by subst h;exact CsLe.refl _
set_option maxRecDepth 100000 in
theorem rev_true (l:List Int) (hn:l.length≤1000000000000):vc Tryz.prog (lk []) Tryz.f109.ntmps [(1,rev_inv l)] (Tryz.f109.body.getD .skip) (⟨entryS [.s false [.hd 1000000]] 0,[(1000000,.row 5 1 l.length (bytE l))]⟩) (retO Tryz.prog Tryz.f109.results.toList [1000000] (.tup []) [(1000000,.row 5 1 l.length (bytE l.reverse))]):=by
 rw[rev_vc]
 simp only[SmA,av_refl,true_and,and_true,decide_eq_true_eq,decide_eq_false_iff_not,Int.toNat_natCast]
 refine⟨⟨0,Nat.zero_le _,⟨AVle.int rfl,AVle.int (by rw[IntKind.wrap_i64];omega)⟩,ABle.row rfl (fun j hj=> ?_) (fun _ _=>rfl)⟩,fun i hi=>⟨fun hlt=> ?_,fun hge=> ?_⟩⟩
 ·rw[if_neg (by omega)]
  exact CsLe.refl _
 ·have e1:((l.length:Int)-1-(i:Int)).toNat=l.length-1-i:=by omega
  have hne:l.length-1-i≠i:=by omega
  simp only[e1,hne,if_false]
  refine⟨by omega,by omega,by omega,by omega,by omega,by omega,by omega,by omega,i+1,by omega,by omega,⟨AVle.int (by rw[IntKind.wrap_i64];omega),AVle.int (by rw[IntKind.wrap_i64];omega)⟩,ABle.row rfl (fun j hj=> ?_) (fun _ _=>rfl)⟩
  show CsLe (if j=_ then _ else _) _
  by_cases h1:j=l.length-1-i
  ·rw[if_pos h1,if_pos (show j<i+1∨l.length≤j+(i+1) by omega),if_neg (show ¬ (i<i∨l.length≤i+i) by omega)]
   exact byt_le (by congr 1;omega)
  ·by_cases h2:j=i
   ·rw[if_neg h1,if_pos h2,if_pos (show j<i+1∨l.length≤j+(i+1) by omega),if_neg (show ¬ (l.length-1-i<i∨l.length≤l.length-1-i+i) by omega)]
    exact byt_le (by rw[h2])
   ·rw[if_neg h1,if_neg h2]
    by_cases h3:j<i∨l.length≤j+i
    ·rw[if_pos h3,if_pos (by omega)];exact CsLe.refl _
    ·rw[if_neg h3,if_neg (by omega)];exact CsLe.refl _
 ·refine ABle.row rfl (fun j hj=> ?_) (fun _ _=>rfl)
  have e:l.reverse.getD j 0=l.getD (l.length-1-j) 0:=by simp[List.getD,List.getElem?_reverse hj]
  rw[e]
  by_cases h3:j<i∨l.length≤j+i
  ·rw[if_pos h3];exact CsLe.refl _
  ·rw[if_neg h3];exact byt_le (by congr 1;omega)
theorem bytsL_len (n:Nat) (e:Nat→List Cell):(bytsL n e).length=n:=by simp[bytsL]
theorem bytsL_E {l:List Int} : bytsL l.length (bytE l)=l:=by
 apply List.ext_getElem?
 intro i
 unfold bytsL
 rw[List.getElem?_map]
 rcases Nat.lt_or_ge i l.length with hi | hi
 ·rw[List.getElem?_range hi,List.getElem?_eq_getElem hi]
  show some (byteAt (bytE l i))=some l[i]
  simp only[byteAt,bytE,List.getD,List.getElem?_eq_getElem hi,Option.getD_some]
 ·rw[List.getElem?_eq_none (by simpa using hi),List.getElem?_eq_none hi]
  rfl
def revR:Run:=fun b avs _=>match avs with
 |[.s false [.hd k]]=>match b k with
  |some (.row T 1 n e)=>match Nat.beq T 5 with
   |true=>some { val:=some (.tup []),set:=[(k,.row 5 1 (bytsL n e).length (bytE (bytsL n e).reverse))],ps:=[∀ i,i<n→CsLe (e i) (bytE (bytsL n e) i),n≤1000000000000] }
   |false=>none
  |_=>none
 |_=>none
set_option maxRecDepth 100000 in
theorem rev_ok (D:Prop) (B:Nat):RunOK Tryz.prog D B 109 revR:=by
 refine fn_own (c:=Tryz.f109.body.getD .skip) (Γ :=lk []) (fun _ _ _ h=>by cases h) (by kernel_rfl) Tryz.func109 (by kernel_rfl) (by kernel_rfl) ?_ B
 intro b avs t e h hp
 unfold revR at h
 split at h
 ·rename_i k
  split at h
  ·rename_i T n e hb
   split at h
   ·rename_i hc
    cases h
    have:=beq_eq hc
    subst this
    obtain⟨hp1,hp2,_⟩:=hp
    have hl:=bytsL_len n e
    have hle1:(bytsL n e).length≤1000000000000:=by rw[hl];exact hp2
    have hset1:∃ b',lk [(k,ABlk.row 5 1 (bytsL n e).length (bytE (bytsL n e).reverse))] k=some b':=⟨_,by simp only[lk,Nat.beq_refl];rfl⟩
    exact⟨{
     σ :=[(1000000,k)]
     ρ :=[(1000000,k)]
     avs':=[.s false [.hd 1000000]]
     blks:=[(1000000,.row 5 1 (bytsL n e).length (bytE (bytsL n e)))]
     inv:=[(1,rev_inv (bytsL n e))]
     val:= .tup []
     kb:=[(1000000,.row 5 1 (bytsL n e).length (bytE (bytsL n e).reverse))]
     hval:=rfl
     hset:=fun x b' h=>by obtain⟨rfl,rfl⟩:=lk_one h;exact⟨1000000,_,rfl,rfl,rfl⟩
     hkb:=fun j x h=>by
      obtain⟨rfl,rfl⟩:=lk_one h
      exact⟨_,rfl,rfl,(fun k hk=>by cases hk),hset1⟩
     hvn:=fun k hk=>by cases hk
     hρ :=fun j j' x h1 h2=>(lk_one h1).1.symm.trans (lk_one h2).1
     hσ :=fun j j' x h1 h2=>(lk_one h1).1.symm.trans (lk_one h2).1
     hhi:=fun j x h=>by obtain⟨e,_⟩:=lk_one h;omega
     hnw:=fun j x h=> .inr h
     hold:=fun j x h=> .inl ⟨j,h⟩
     hle:=AvsLe.refl _
     hlen:=by rw[Tryz.ntmps109];simp
     hblk:=fun j b0 h=>by
      obtain⟨rfl,rfl⟩:=lk_one h
      exact⟨rfl,k,rfl,_,hb,ABle.row hl.symm hp1 (fun i _=>bytE_cl _ _)⟩
     hvc:=rev_true _ hle1 }⟩
   ·cases h
  ·cases h
 ·cases h
end Go.Proofs.YtmagoiniahpofaaGreat
