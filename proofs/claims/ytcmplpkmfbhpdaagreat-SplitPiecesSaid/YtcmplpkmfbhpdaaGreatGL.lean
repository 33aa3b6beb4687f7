import Derived.Test.YtcmplpkmfbhpdaaGreatGK
namespace Go.Proofs.YtcmplpkmfbhpdaaGreat
open Go Go.RowKit
def ad7 (w:World) (g:Nat) (l:List Nat) (ex:List Value):Prop:=aak 213 w g ((l.map λx:Nat=>Value.int .u32 x)++ex)
theorem ad7.get {w:World} {g:Nat} {l:List Nat} {ex:List Value} (h:ad7 w g l ex) {j z:Nat} (hz:l[j]? =some z):w.cell? ⟨g,j,none⟩=some (Value.int .u32 (z:Nat)):=by
 have hj:j<l.length:=(List.getElem?_eq_some_iff.1 hz).1;rw[aak.cell h j,List.getElem?_append_left (by simpa using hj)];simp[hz]
theorem ad7.set {w:World} {g:Nat} {l:List Nat} {ex:List Value} (h:ad7 w g l ex) {j:Nat} (hj:j<l.length) (z:Nat):ad7 (w.setCell ⟨g,j,none⟩ (.int .u32 z)) g (l.set j z) ex:=by
 have:=aak.set h j (.int .u32 z);rw[List.set_append_left _ _ (by simpa using hj),<- List.map_set (f:=λx:Nat=>Value.int .u32 x)] at this;exact this
theorem ad7.set_ne {w:World} {g h j:Nat} {l:List Nat} {ex:List Value} (hb:ad7 w g l ex) (hne:g≠h) (v:Value):ad7 (w.setCell ⟨h,j,none⟩ v) g l ex:=aak.set_ne hb hne j v
theorem ad7.still {w w':World} {g:Nat} {l:List Nat} {ex:List Value} (h:ad7 w g l ex) (hg:w.grownBy w' none):ad7 w' g l ex:=aak.still h hg
theorem ad7.row {w:World} {g:Nat} {l:List Nat} {ex:List Value} (h:ad7 w g l ex):abi w (some ⟨g,0,none⟩) l:=by
 refine .inr ⟨g,_,rfl,h,λj x hx=> ?_⟩;have hj:j<l.length:=(List.getElem?_eq_some_iff.1 hx).1;simp only[List.getElem?_toArray];rw[List.getElem?_append_left (by simpa using hj)];simp[hx]
theorem ajo {w:World} {B n:Nat} {v:Value} {l:List Nat} (h:w.ownsRow B 213 1 v n (l.map λx:Nat=>Value.int .u32 x)) (hn:0<n) (hl:l.length=n) :
  ∃ g c ex,v= .slice (some ⟨g,0,none⟩) n c/\n<=c/\B<=g/\ad7 w g l ex:=by
 obtain⟨_,⟨_,h0⟩ | ⟨g,cap,cur,rfl,hB,hh,hc,_,hs,ht⟩⟩:=h
 ·omega
 ·refine⟨g,cap,cur.toList.drop (n*1),rfl,hc,hB,?_⟩;show w.heap[g]? =_;rw[hh,<- ht,List.take_append_drop]
theorem aqI {w:World} {g:Nat} {l:List Nat} (h:aak 213 w g (l.map λx:Nat=>Value.int .u32 x)):ad7 w g l []:=by
 unfold ad7;rw[List.append_nil];exact h
theorem abi.blk {w:World} {a:Option Addr} {l:List Nat} (h:abi w a l) (hl:l≠[]):∃ g cs,a=some ⟨g,0,none⟩/\aak 213 w g cs/\∀ (j x:Nat),l[j]? =some x->cs[j]? =some (Value.int .u32 (x:Nat)):=by
 rcases h with h | ⟨g,cs,rfl,hb,hc⟩
 ·exact absurd h hl
 ·exact⟨g,cs.toList,rfl,hb,λj x hx=>by simpa using hc j x hx⟩
theorem ahe {t:Nat} (h0:0<t) (h:t<4294967296):0<Lib.bitLen t/\Lib.bitLen t<=32:=by
 refine⟨ahf h0,?_⟩;unfold Lib.bitLen;rw[Lib.bitLenAux_fuel 32 t (by omega) 64 (by decide)];exact ae8 _ _
theorem aid (f t:Nat) (h0:0<t) (h:t<2 ^ f):2 ^ f<=t*2 ^ (f-Lib.bitLenAux f t)*2:=by
 induction f generalizing t with
 |zero=>simp at h;omega
 |succ f ih=>
  rw[Lib.bitLenAux,if_neg (by omega)];by_cases h1:t/2=0
  ·have e:t=1:=by omega
   subst e;have e2:Lib.bitLenAux f (1/2)=0:=by
    show Lib.bitLenAux f 0=0;cases f with
    |zero=>rfl
    |succ f=>rfl
   rw[e2];simp[Nat.pow_succ]
  ·have h2:=ih (t/2) (by omega) (by rw[Nat.pow_succ] at h;omega);have e3:f+1-(1+Lib.bitLenAux f (t/2))=f-Lib.bitLenAux f (t/2):=by omega
   rw[e3,Nat.pow_succ];have h4:t/2*2*2 ^ (f-Lib.bitLenAux f (t/2))<=t*2 ^ (f-Lib.bitLenAux f (t/2)):=Nat.mul_le_mul_right _ (by omega);have e5:t/2*2 ^ (f-Lib.bitLenAux f (t/2))*2=t/2*2*2 ^ (f-Lib.bitLenAux f (t/2)):=by rw[Nat.mul_right_comm]
   omega
theorem ajq (f t:Nat) (h:t<2 ^ f):t<2 ^ Lib.bitLenAux f t:=by
 induction f generalizing t with
 |zero=>exact h
 |succ f ih=>
  rw[Lib.bitLenAux];split
  ·rename_i h0;subst h0;decide
  ·have:=ih (t/2) (by rw[Nat.pow_succ] at h;omega);rw[Nat.add_comm,Nat.pow_succ];omega
theorem amz {y s:Nat} (h:limbs y≠[]) (hs:s=32-Lib.bitLen ((limbs y).getLast h)) :
  (limbs (y*2 ^ s)).length=(limbs y).length/\4294967296 ^ (limbs y).length<=y*2 ^ s*2:=by
 have ht0:=af9 h;have htb:=limbs_limb y _ (List.getLast_mem h);have hy:=val_limbs y;have hlb:=limbs_limb y;obtain⟨t,ht⟩:∃ t,(limbs y).getLast h=t:=⟨_,rfl⟩
 rw[ht] at hs ht0 htb;obtain⟨hb0,hb1⟩:=ahe ht0 htb;have hlow:4294967296<=t*2 ^ s*2:=by
  have h1:=aid 32 t ht0 (by omega);rw[<- Lib.bitLenAux_fuel 32 t (by omega) 64 (by decide)] at h1;rw[hs];exact h1
 have hup:(t+1)*2 ^ s<=4294967296:=by
  have h1:=ajq 32 t (by omega);rw[<- Lib.bitLenAux_fuel 32 t (by omega) 64 (by decide)] at h1;have h2:(t+1)*2 ^ s<=2 ^ Lib.bitLen t*2 ^ s:=Nat.mul_le_mul_right _ h1;rw[<- Nat.pow_add,show Lib.bitLen t+s=32 by omega] at h2;exact h2
 have hlen:0<(limbs y).length:=List.length_pos_iff.2 h;obtain⟨n,hn⟩:∃ n,(limbs y).length=n+1:=⟨(limbs y).length-1,by omega⟩
 have hlast:(limbs y)[n]? =some t:=by
  rw[<- ht,List.getLast_eq_getElem,List.getElem?_eq_getElem (by omega)];congr 1
  simp only[hn,Nat.add_sub_cancel]
 have e1:=aa9 (limbs y) n (by omega);rw[val_drop hlast,List.drop_of_length_le (by omega),hy] at e1;simp only[valL,Nat.mul_zero,Nat.add_zero] at e1;have e2:=val_lt (acO hlb n);rw[List.length_take,hn,Nat.min_eq_left (by omega)] at e2;obtain⟨P,hP⟩:∃ P,P=4294967296 ^ n:=⟨_,rfl⟩
 obtain⟨S,hS⟩:∃ S,S=2 ^ s:=⟨_,rfl⟩
 have hS0:0<S:=by rw[hS];exact Nat.two_pow_pos _
 rw[hn];rw[<- hP] at e1 e2;rw[<- hS] at hlow hup ⊢;have e3:4294967296 ^ (n+1)=P*4294967296:=by rw[Nat.pow_succ,hP]
 have hyS:y*S<P*4294967296:=by
  have h1:y*S<(P*(t+1))*S:=Nat.mul_lt_mul_of_pos_right (by rw[Nat.mul_add];omega) hS0;have h2:(P*(t+1))*S=P*((t+1)*S):=Nat.mul_assoc _ _ _;have h3:P*((t+1)*S)<=P*4294967296:=Nat.mul_le_mul_left _ hup;omega
 refine⟨?_,?_⟩
 ·have h1:=(limbs_len (y*S) (n+1)).2 (by rw[e3];exact hyS);have h2:=limbs_mono (show y<=y*S from Nat.le_mul_of_pos_right _ hS0);omega
 ·rw[e3];have h1:P*4294967296<=P*(t*S*2):=Nat.mul_le_mul_left _ hlow;have h2:P*(t*S*2)=(P*t)*S*2:=by rw[<- Nat.mul_assoc,<- Nat.mul_assoc]
  have h3:(P*t)*S<=y*S:=Nat.mul_le_mul_right _ (by omega);omega
end Go.Proofs.YtcmplpkmfbhpdaaGreat
