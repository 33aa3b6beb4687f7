import Derived.Test.YtcmplpkmfbhpdaaGreatGMem
namespace Go.Proofs.YtcmplpkmfbhpdaaGreat
open Go Go.RowKit
theorem aap (w:World) (o:Obj):Own w.heap.size w (w.alloc o):=(Own.refl _ _).alloc (Nat.le_refl _) o
theorem ad1 {w:World} {a:Option Addr} {l:List Nat} {n:Nat} (hl:Limb l) (hr:abi w a l) (hn:n<=l.length) (hz:∀ j,n<=j->∀ x,l[j]? =some x->x=0) (ht:n=0\/l[n-1]? ≠ some 0):aaD w (.agg #[.slice a n n]) (valL l):=by
 have e:=cut_limbs hl n hn hz ht;have hlen:(limbs (valL l)).length=n:=by rw[<- e,List.length_take];omega
 refine⟨a,by rw[hlen],?_⟩;rw[<- e];exact hr.take n
def az9 (w0:World) (l:List Nat) (k:Nat) (u:Value) (wr:World):Prop:=
 ∃ n:Nat,u= .int .i64 n/\n<=l.length/\n<k/\(∀ j,n<=j->∀ x,l[j]? =some x->x=0)/\w0=wr
theorem abO {w w0:World} {T:TypeId} {g n:Nat} {v u:Value} {cs:List Value} (hv:aaD w0 v n) (hB:aak T w0 g cs) (hT:T≠213) (hG:Own w.heap.size w w0) (hg:w.heap.size<=g):aaD (w0.setCell ⟨g,0,none⟩ u) v n/\Own w.heap.size w (w0.setCell ⟨g,0,none⟩ u):=
 ⟨hv.keep (aaL hB hT u),hG.set hg 0 u⟩
set_option maxHeartbeats 2000000 in
set_option maxRecDepth 100000 in
theorem ake (l:List Nat) (a:Option Addr) (c:Nat) (w:World) (hl:Limb l) (hr:abi w a l) (hc:l.length<=c) (hsz:l.length<=1000000) :
  Calls Tryz.prog 169 #[.slice a l.length c] w λe w'=>∃ v,e= .returned v/\aaD w' v (valL l)/\Own w.heap.size w w':=by
 have HL:=Lib.hid hl;have HR:=Lib.hid hr;clear hl hr;go_enter Tryz.func169,Tryz.ntmps169
 go_wp2_with fail
 have HB:Hid (aak 35 (w.alloc (.cells #[.slice none 0 0] 35)) w.heap.size [.slice none 0 0]):=aak.new _ _ _;have HG:Hid (Own w.heap.size w (w.alloc (.cells #[.slice none 0 0] 35))):=aap _ _;have hlt:=HB.out.lt;have hc1:=HB.out.cell 0;have hf1:=HB.out.free 0;simp only[List.getElem?_cons_zero] at hc1;generalize hw0:(w.alloc (.cells #[.slice none 0 0] 35))=w0 at *;go_loopg [3] (l.length+1) (λk u wr=>Hid (az9 w0 l k u wr))
 case atStart=>exact⟨l.length,rfl,Nat.le_refl _,by omega,(λj hj x hx=>by rw[List.getElem?_eq_none hj] at hx;cases hx),rfl⟩
 case round=>
  obtain⟨n,rfl,hn,hk,hz,rfl⟩:=hrel.out;have HZ:=Lib.hid hz;clear hrel hz;by_cases h0:0<n
  ·obtain⟨x,hx⟩:∃ x,l[n-1]? =some x:=⟨l[n-1]'(by omega),List.getElem?_eq_getElem _⟩
   obtain⟨g,ha,hgl,hcell⟩:=(HR.out.own HG.out).cells (by rintro rfl;simp at hn;omega);subst ha;have hc0:=hcell _ _ hx;have HX:=Lib.hid hx;clear hx hcell;by_cases hx0:x=0
   ·subst hx0;go_wp2
    go_roundg (gk-1)
    case measure=>omega
    case rel=>
     refine⟨n-1,by go_num,by omega,by omega,?_,rfl⟩;intro j hj y hy;by_cases h:j=n-1
     ·rw[h,HX.out] at hy;cases hy;rfl
     ·exact HZ.out j (by omega) y hy
   ·have hx1:((x:Int) == 0)=false:=by simp;omega
    go_wp2
    refine acG rfl rfl rfl (HB.out.set 0 _) ⟨_,rfl,?_⟩;exact abO (ad1 HL.out (HR.out.own HG.out) hn HZ.out (.inr (by rw[HX.out];simpa using hx0))) HB.out (by decide) HG.out (Nat.le_refl _)
  ·obtain rfl:n=0:=by omega
   rcases a with _ | ad
   ·go_wp2
    refine acG rfl rfl rfl (HB.out.set 0 _) ⟨_,rfl,?_⟩;exact abO (ad1 HL.out (HR.out.own HG.out) hn HZ.out (.inl rfl)) HB.out (by decide) HG.out (Nat.le_refl _)
   ·go_wp2
    refine acG rfl rfl rfl (HB.out.set 0 _) ⟨_,rfl,?_⟩;exact abO (ad1 HL.out (HR.out.own HG.out) hn HZ.out (.inl rfl)) HB.out (by decide) HG.out (Nat.le_refl _)
set_option maxHeartbeats 2000000 in
set_option maxRecDepth 100000 in
theorem aev (n:Nat) (w:World) (hn:n<18446744073709551616) :
  Calls Tryz.prog 112 #[.int .u64 n] w λe w'=>∃ v,e= .returned v/\aaD w' v n/\Own w.heap.size w w':=by
 have HB:Hid (aak 35 (w.alloc (.cells #[.slice none 0 0] 35)) w.heap.size [.slice none 0 0]):=aak.new _ _ _;have HG:Hid (Own w.heap.size w (w.alloc (.cells #[.slice none 0 0] 35))):=aap _ _;go_enter Tryz.func112,Tryz.ntmps112
 go_wp2_with fail
 have e:valL [n%4294967296,n/4294967296]=n:=by simp[valL];omega
 refine (ake [n%4294967296,n/4294967296] _ 2 _ ?_ (anj (aaN (by simp)) (by simp)) (Nat.le_refl _) (by simp)).mono ?_
 ·intro x hx;simp at hx;omega
 rintro e1 w1 ⟨v,rfl,hv,hg⟩;rw[e] at hv;have HV:=Lib.hid hv;have HB1:=Lib.hid ((HB.out.still (aab _ _ none)).still (Gr.grown hg));have HG1:=Lib.hid ((HG.out.alloc (by simp) _).call (by simp;omega) hg);have hlt:=HB1.out.lt;have hc1:=HB1.out.cell 0;have hf1:=HB1.out.free 0;simp only[List.getElem?_cons_zero] at hc1;obtain⟨a,rfl,_⟩:=hv;clear hg;go_wp2_with fail
 refine acG rfl rfl rfl (HB1.out.set 0 _) ⟨_,rfl,?_⟩;exact abO HV.out HB1.out (by decide) HG1.out (Nat.le_refl _)
end Go.Proofs.YtcmplpkmfbhpdaaGreat
