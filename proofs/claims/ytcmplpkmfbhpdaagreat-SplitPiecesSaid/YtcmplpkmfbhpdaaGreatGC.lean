import Derived.Test.YtcmplpkmfbhpdaaGreatGB
import Derived.Test.YtcmplpkmfbhpdaaGreatGRat
namespace Go.Proofs.YtcmplpkmfbhpdaaGreat
open Go Go.RowKit
theorem abN {k:IntKind} {a b:Int} (h:a=b):Ending.returned (.int k a)= .returned (.int k b):=by rw[h]
theorem Own.call0 {a b c:World} (h:Gr a b) (k:Gr b c):Gr a c:=h.call h.size k
theorem ac3 (w:World) (n:Nat):Gr w (w.drewN n):=(Own.refl _ w).drewN n
def aAa (w0:World) (l m:List Nat) (k:Nat) (u:Value) (wr:World):Prop:=
 ∃ i:Nat,u= .int .i64 ((i:Int)-1)/\i<=l.length/\i<k/\l.drop i=m.drop i/\Gr w0 wr
theorem avA {x y:Nat} (h:(limbs x).length<(limbs y).length):abe (x:Int) (y:Int)= -1:=by
 have:=lt_of_len h;unfold abe;rw[if_pos (by omega)]
theorem asS {x y:Nat} (h:y<x):abe (x:Int) (y:Int)=1:=by
 unfold abe;rw[if_neg (by omega),if_pos (by omega)]
theorem anK {x y:Nat} (h:x<y):abe (x:Int) (y:Int)= -1:=by
 unfold abe;rw[if_pos (by omega)]
theorem arL (x:Int):abe x x=0:=by
 unfold abe;rw[if_neg (by omega),if_neg (by omega)]
theorem limbs_inj {x y:Nat} (h:limbs x=limbs y):x=y:=by
 rw[<- val_limbs x,h,val_limbs]
set_option maxHeartbeats 4000000 in
set_option maxRecDepth 100000 in
theorem ab1 (x y:Nat) (v u:Value) (w:World) (hv:aaD w v x) (hu:aaD w u y) (hx:(limbs x).length<=1000000) :
  Calls Tryz.prog 115 #[v,u] w λe w'=>e= .returned (.int .i64 (abe (x:Int) (y:Int)))/\Own w.heap.size w w':=by
 obtain⟨a,rfl,hr⟩:=hv;obtain⟨b,rfl,hs⟩:=hu;have HX:=Lib.hid (val_limbs x);have HY:=Lib.hid (val_limbs y);have HLX:=Lib.hid (limbs_limb x);have HLY:=Lib.hid (limbs_limb y);have HR:=Lib.hid hr;have HS:=Lib.hid hs;have HEQ:=Lib.hid (@limbs_inj x y);have hcl:(limbs x).length<(limbs y).length->abe (x:Int) (y:Int)= -1:=avA;have hcg:(limbs y).length<(limbs x).length->abe (x:Int) (y:Int)=1:=λh=>asS (lt_of_len h);have HCL:=Lib.hid hcl;have HCG:=Lib.hid hcg;clear hr hs hcl hcg;obtain⟨l,hl⟩:∃ l,l=limbs x:=⟨_,rfl⟩
 obtain⟨m,hm⟩:∃ m,m=limbs y:=⟨_,rfl⟩
 rw[<- hl] at HX HLX HR HEQ HCL HCG hx ⊢;rw[<- hm] at HY HLY HS HEQ HCL HCG ⊢;clear hl hm;have HB1:Hid (aak 35 (w.alloc (.cells #[.slice a l.length l.length] 35)) w.heap.size [.slice a l.length l.length]):=aak.new _ _ _;have HB2:Hid (aak 35 ((w.alloc (.cells #[.slice a l.length l.length] 35)).alloc (.cells #[.slice b m.length m.length] 35)) (w.heap.size+1) [.slice b m.length m.length]):=aaN (cs:=[.slice b m.length m.length]) (by simp);have HB3:=Lib.hid (HB1.out.still (aab _ (.cells #[.slice b m.length m.length] 35) none));have HG:Hid (Own w.heap.size w ((w.alloc (.cells #[.slice a l.length l.length] 35)).alloc (.cells #[.slice b m.length m.length] 35))):=(aap _ _).alloc (by simp) _;clear HB1;rcases Nat.lt_trichotomy l.length m.length with hlt | heq | hgt
 ·have h1:((l.length:Int) != (m.length:Int))=true:=by simp;omega
  have h2:(l.length != m.length)=true:=by simp;omega
  have hres:=HCL.out hlt;go_enter Tryz.func115,Tryz.ntmps115
  go_wp2
  go_ret
  exact⟨by first | rfl | exact abN hres.symm,HG.out⟩
 ·go_enter Tryz.func115,Tryz.ntmps115
  have h1:((l.length:Int) != (m.length:Int))=false:=by simp;omega
  have h2:(l.length != m.length)=false:=by simp;omega
  have HLEN:=Lib.hid heq;clear heq;go_wp2_with fail
  generalize ((w.alloc (.cells #[.slice a l.length l.length] 35)).alloc (.cells #[.slice b m.length m.length] 35))=w0 at *;go_loopg [5] (l.length+1) (λk u wr=>Hid (aAa w0 l m k u wr))
  case atStart=>exact⟨l.length,by first | rfl | go_num,Nat.le_refl _,by omega,by rw[List.drop_of_length_le (Nat.le_refl _),List.drop_of_length_le (by rw[HLEN.out];exact Nat.le_refl _)],Own.refl _ _⟩
  case round=>
   obtain⟨i,rfl,hi,hk,hd,hg⟩:=hrel.out;have HD:=Lib.hid hd;have HGR:=Lib.hid hg;clear hrel hd hg;have hb3:=(HB3.out.still (Gr.grown HGR.out)).cell 0;have hb2:=(HB2.out.still (Gr.grown HGR.out)).cell 0;simp only[List.getElem?_cons_zero] at hb3 hb2;by_cases h0:0<i
   ·obtain⟨j,rfl⟩:∃ j,i=j+1:=⟨i-1,by omega⟩
    have HI:=Lib.hid hi;obtain⟨p,hp⟩:∃ p,l[j]? =some p:=⟨l[j]'(by omega),List.getElem?_eq_getElem _⟩
    obtain⟨q,hq⟩:∃ q,m[j]? =some q:=⟨m[j]'(by have:=HLEN.out;omega),List.getElem?_eq_getElem _⟩
    obtain⟨g,ha,hgl,hcell⟩:=(((HR.out.own HG.out).own HGR.out)).cells (by rintro rfl;simp at hi);obtain⟨g2,ha2,hgl2,hcell2⟩:=(((HS.out.own HG.out).own HGR.out)).cells (by intro h;have:=HLEN.out;rw[h] at this;simp only[List.length_nil] at this;omega);subst ha ha2;have hc0:=hcell _ _ hp;have hc2:=hcell2 _ _ hq;have HP:=Lib.hid hp;have HQ:=Lib.hid hq;have e1:((j:Int)+1-1)=j:=by omega
    have hj2:(j:Int)<l.length:=by omega
    have hj3:(j:Int)<m.length:=by have:=HLEN.out;omega
    clear hp hq hcell hcell2 h0;have z0:(0:Int)<=(j:Int):=by omega
    by_cases hpq:p=q
    ·subst hpq;have hne:((p:Int) != (p:Int))=false:=by simp
     go_wp2_with fail
     go_quiet (fail)
     go_wp2_with fail
     go_roundg (gk-1)
     case measure=>omega
     case rel=>exact⟨j,by first | rfl | go_num,by omega,by omega,apA HD.out HP.out HQ.out,HGR.out.call0 (ac3 _ _)⟩
    ·have hne:((p:Int) != (q:Int))=true:=by simp;omega
     go_wp2_with fail
     go_quiet (fail)
     go_wp2_with fail
     rcases Nat.lt_or_ge p q with hlt | hge
     ·have hlt2:(p:Int)<(q:Int):=by omega
      have hres:abe (x:Int) (y:Int)= -1:=anK (by rw[<- HX.out,<- HY.out];exact val_cmp HLX.out HLEN.out j HD.out HP.out HQ.out hlt);go_quiet (fail)
      go_wp2_with fail
      go_ret
      exact⟨by first | rfl | exact abN hres.symm,by first | exact HG.out.call HG.out.size (HGR.out.call0 (ac3 _ _)) | exact HG.out.call HG.out.size ((HGR.out.call0 (ac3 _ _)).call0 (ac3 _ _))⟩
     ·have hlt2:¬ (p:Int)<(q:Int):=by omega
      have hres:abe (x:Int) (y:Int)=1:=asS (by rw[<- HX.out,<- HY.out];exact val_cmp HLY.out HLEN.out.symm j HD.out.symm HQ.out HP.out (by omega));go_quiet (fail)
      go_wp2_with fail
      go_ret
      exact⟨by first | rfl | exact abN hres.symm,by first | exact HG.out.call HG.out.size (HGR.out.call0 (ac3 _ _)) | exact HG.out.call HG.out.size ((HGR.out.call0 (ac3 _ _)).call0 (ac3 _ _))⟩
   ·obtain rfl:i=0:=by omega
    have hres:abe (x:Int) (y:Int)=0:=by
     have:=HEQ.out (aku HD.out);rw[this];exact arL _
    go_wp2_with fail
    go_ret
    exact⟨by first | rfl | exact abN hres.symm,HG.out.call HG.out.size HGR.out⟩
 ·have h1:((l.length:Int) != (m.length:Int))=true:=by simp;omega
  have h2:(l.length != m.length)=true:=by simp;omega
  have h3:¬ (l.length:Int)<(m.length:Int):=by omega
  have h4:¬ l.length<m.length:=by omega
  have hres:=HCG.out hgt;go_enter Tryz.func115,Tryz.ntmps115
  go_wp2
  go_ret
  exact⟨by first | rfl | exact abN hres.symm,HG.out⟩
end Go.Proofs.YtcmplpkmfbhpdaaGreat
