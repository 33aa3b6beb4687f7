import Derived.Test.YtcmplpkmfbhpdaaGreatGA
namespace Go.Proofs.YtcmplpkmfbhpdaaGreat
open Go Go.RowKit
theorem aic {o:List Nat} {j Q:Nat} (h:j<o.length):(o.set j Q).drop j=Q::o.drop (j+1):=by
 rw[List.drop_eq_getElem_cons (by simpa using h),List.drop_set_of_lt (by omega)];simp
def aA0 (w0:World) (l:List Nat) (g d k:Nat) (r u:Value) (wr:World):Prop:=
 ∃ (i q:Nat) (o:List Nat),u= .int .i64 ((i:Int)-1)/\r= .int .u64 (q:Nat)/\i<=l.length/\i<k/\o.length=l.length/\Limb o/\valL (l.drop i)=d*valL (o.drop i)+q/\q<d/\aak 213 wr g (o.map λx:Nat=>Value.int .u32 x)/\Own w0.heap.size w0 wr
theorem agu (a b:Nat) (ha:a<18446744073709551616) (hb:b<18446744073709551616):bits BinOp.or IntKind.u64 (a:Int) (b:Int)=((a ||| b:Nat):Int):=by
 have h1:(BitVec.ofInt 64 (a:Int))=BitVec.ofNat 64 a:=BitVec.ofInt_natCast ..;have h2:(BitVec.ofInt 64 (b:Int))=BitVec.ofNat 64 b:=BitVec.ofInt_natCast ..;have h3:a ||| b<2 ^ 64:=Nat.or_lt_two_pow ha hb
 unfold bits;show IntKind.u64.wrap (((BitVec.ofInt 64 (a:Int) ||| BitVec.ofInt 64 (b:Int)).toNat:Nat):Int)=_;rw[h1,h2,BitVec.toNat_or,BitVec.toNat_ofNat,BitVec.toNat_ofNat,Nat.mod_eq_of_lt (by simpa using ha),Nat.mod_eq_of_lt (by simpa using hb)];show ((a ||| b:Nat):Int)%18446744073709551616=_;omega
theorem ad4 (s q x:Nat) (hs:s<=64) (hx:x<2 ^ s) (hq:q*2 ^ s+x<18446744073709551616):bits BinOp.or IntKind.u64 ((q*2 ^ s:Nat):Int) (x:Int)=((q*2 ^ s+x:Nat):Int):=by
 have hx2:2 ^ s<=2 ^ 64:=Nat.pow_le_pow_right (by decide) hs;have e:q*2 ^ s ||| x=q*2 ^ s+x:=by
  have:=Nat.shiftLeft_add_eq_or_of_lt (i:=s) hx q;rw[Nat.shiftLeft_eq] at this;exact this.symm
 rw[agu _ _ (by omega) (by omega),e]
theorem agv (s q x:Nat) (hs:s<=64) (hx:x<2 ^ s) (hq:q*2 ^ s+x<18446744073709551616):bits BinOp.or IntKind.u64 (x:Int) ((q*2 ^ s:Nat):Int)=((q*2 ^ s+x:Nat):Int):=by
 have hx2:2 ^ s<=2 ^ 64:=Nat.pow_le_pow_right (by decide) hs;have e:x ||| q*2 ^ s=q*2 ^ s+x:=by
  have:=Nat.shiftLeft_add_eq_or_of_lt (i:=s) hx q;rw[Nat.shiftLeft_eq] at this;rw[Nat.or_comm];exact this.symm
 rw[agu _ _ (by omega) (by omega),e]
set_option maxHeartbeats 2000000 in
set_option maxRecDepth 100000 in
theorem asT (l:List Nat) (a:Option Addr) (c d:Nat) (w:World) (hl:Limb l) (hr:abi w a l) (hsz:l.length<=1000000) (hd0:0<d) (hd:d<4294967296) :
  Calls Tryz.prog 207 #[.slice a l.length c,.int .u32 d] w λe w'=>∃ b q o,e= .returned (.tuple #[.slice b l.length l.length,.int .u32 (q:Nat)])/\abi w' b o/\o.length=l.length/\Limb o/\valL o=valL l/d/\q=valL l%d/\Own w.heap.size w w':=by
 obtain⟨w1,hmk,hb1,hg1⟩:=afX w l.length hsz;have HL:=Lib.hid hl;have HR:=Lib.hid hr;have HB:=Lib.hid hb1;have HG:Hid (Own w.heap.size w w1):=hg1;clear hl hr hb1 hg1;go_enter Tryz.func207,Tryz.ntmps207
 go_wp2_with fail
 go_loopg [7,8] (l.length+1) (λk r u wr=>Hid (aA0 w l w.heap.size d k r u wr))
 case atStart=>
  refine⟨l.length,0,List.replicate l.length 0,by first | rfl | go_num,rfl,Nat.le_refl _,by omega,by simp,limb_zeros _,?_,hd0,HB.out,HG.out⟩
  ·rw[List.drop_of_length_le (Nat.le_refl _),List.drop_of_length_le (by simp)];rfl
 case round=>
  obtain⟨i,q,o,rfl,rfl,hi,hk,hol,hlo,hv,hq,hb,hg⟩:=hrel.out;have HLO:=Lib.hid hlo;have HV:=Lib.hid hv;have HB:=Lib.hid hb;have HG2:=Lib.hid hg;clear hrel hlo hv hb hg HG;by_cases h0:0<i
  ·obtain⟨j,rfl⟩:∃ j,i=j+1:=⟨i-1,by omega⟩
   obtain⟨x,hx⟩:∃ x,l[j]? =some x:=⟨l[j]'(by omega),List.getElem?_eq_getElem _⟩
   obtain⟨z,hz⟩:∃ z,o[j]? =some z:=⟨o[j]'(by omega),List.getElem?_eq_getElem _⟩
   obtain⟨g,ha,hgl,hcell⟩:=(HR.out.own HG2.out).cells (by rintro rfl;simp at hi);subst ha;have hc0:=hcell _ _ hx;have hcz:wr.cell? ⟨w.heap.size,j,none⟩=some (Value.int .u32 (z:Nat)):=by rw[HB.out.cell j];simp[hz]
   have hfz:=HB.out.free j;have HX:=Lib.hid hx;have hxb:=HL.out x (List.mem_of_getElem? hx);have e1:((j:Int)+1-1)=j:=by omega
   have hj2:(j:Int)<l.length:=by omega
   have HZ:=Lib.hid hz;clear hx hcell hz h0;obtain⟨N,hN⟩:∃ N,N=q*4294967296+x:=⟨_,rfl⟩
   have hNb:N<d*4294967296:=by
    have:(q+1)*4294967296<=d*4294967296:=Nat.mul_le_mul_right _ hq;omega
   have hor:bits BinOp.or IntKind.u64 ((q:Int)*4294967296) (x:Int)=(N:Int):=by
    have:=ad4 32 q x (by decide) hxb (by omega);rw[hN];exact this
   obtain⟨Q,hQ⟩:∃ Q,Q=N/d:=⟨_,rfl⟩
   obtain⟨R,hR⟩:∃ R,R=N%d:=⟨_,rfl⟩
   have hQb:Q<4294967296:=by rw[hQ];exact Nat.div_lt_of_lt_mul hNb
   have hRb:R<d:=by rw[hR];exact Nat.mod_lt _ hd0
   have hdv:(N:Int).tdiv (d:Int)=(Q:Int):=by rw[hQ,Int.tdiv_eq_ediv_of_nonneg (by omega)];rfl
   have hmd:(N:Int).tmod (d:Int)=(R:Int):=by rw[hR,Int.tmod_eq_emod_of_nonneg (by omega)];rfl
   have HN:Hid (N=q*4294967296+x/\Q=N/d/\R=N%d):=⟨hN,hQ,hR⟩
   clear hN hQ hR hNb;go_wp2_with fail
   go_roundg (gk-1)
   case measure=>omega
   case rel=>
    obtain⟨e1,e2,e3⟩:=HN.out;refine⟨j,R,o.set j Q,by first | rfl | go_num,by first | rfl | go_num,by omega,by omega,by simp[hol],limb_set HLO.out j hQb,?_,hRb,?_,HG2.out.set (Nat.le_refl _) _ _⟩
    ·rw[val_drop HX.out,aic (by omega),valL,e2,e3,e1];exact aox HV.out
    ·have:=HB.out.set j (.int .u32 Q);rw[<- List.map_set (f:=λx:Nat=>Value.int .u32 x)] at this;exact this
  ·obtain rfl:i=0:=by omega
   go_wp2_with fail
   refine bodyPost_ret (v:= .tuple #[.slice (some ⟨w.heap.size,0,none⟩) l.length l.length,.int .u32 (q:Nat)]) (by simp[results,Tryz.results207,go_sem]) rfl ⟨_,q,o,rfl,anj HB.out rfl,hol,HLO.out,?_,?_,HG2.out⟩
   ·have:=HV.out;rw[List.drop_zero,List.drop_zero] at this;rw[this,Nat.mul_add_div hd0,Nat.div_eq_of_lt hq,Nat.add_zero]
   ·have:=HV.out;rw[List.drop_zero,List.drop_zero] at this;rw[this,Nat.mul_add_mod,Nat.mod_eq_of_lt hq]
end Go.Proofs.YtcmplpkmfbhpdaaGreat
