import Derived.Test.YtcmplpkmfbhpdaaGreatGF
namespace Go.Proofs.YtcmplpkmfbhpdaaGreat
open Go Go.RowKit
def ayu (w:World) (b:Option Addr) (l m:List Nat) (k:Nat) (u:Value) (wr:World):Prop:=
 ∃ (i:Nat) (o:List Nat),u= .int .i64 i/\MulAt l m i o/\i<=l.length/\l.length<k+i/\aak 213 wr (w.heap.size+1+1+1) (o.map λx:Nat=>Value.int .u32 x)/\
  aak 35 wr (w.heap.size+1) [.slice b m.length m.length]/\aak 35 wr (w.heap.size+1+1) [.slice none 0 0]/\Own w.heap.size w wr
def arY (w:World) (b:Option Addr) (l m:List Nat) (i x k:Nat) (cv u:Value) (wr:World):Prop:=
 ∃ (j:Nat) (o:List Nat) (c:Nat),cv= .int .u64 c/\u= .int .i64 j/\MulIn l m i x j o c/\j<=m.length/\m.length<k+j/\aak 213 wr (w.heap.size+1+1+1) (o.map λx:Nat=>Value.int .u32 x)/\
  aak 35 wr (w.heap.size+1) [.slice b m.length m.length]/\aak 35 wr (w.heap.size+1+1) [.slice none 0 0]/\Own w.heap.size w wr
theorem aak.set_ne {T:TypeId} {w:World} {g h:Nat} {cs:List Value} (hb:aak T w g cs) (hne:g≠h) (j:Nat) (v:Value):aak T (w.setCell ⟨h,j,none⟩ v) g cs:=
 hb.grown (aaU w _ v) (by intro e;exact hne (Option.some.inj e))
theorem aiY {T:TypeId} {w:World} {g:Nat} {o:List Nat} (h:aak T w g (o.map λx:Nat=>Value.int .u32 x)) (j z:Nat):aak T (w.setCell ⟨g,j,none⟩ (.int .u32 z)) g ((o.set j z).map λx:Nat=>Value.int .u32 x):=by
 have:=h.set j (.int .u32 z);rw[<- List.map_set (f:=λx:Nat=>Value.int .u32 x)] at this;exact this
theorem aiZ {T:TypeId} {w:World} {g:Nat} {o:List Nat} (h:aak T w g (o.map λx:Nat=>Value.int .u32 x)) {j z:Nat} (hz:o[j]? =some z):w.cell? ⟨g,j,none⟩=some (Value.int .u32 (z:Nat)):=by
 rw[h.cell j];simp[hz]
set_option maxHeartbeats 8000000 in
set_option maxRecDepth 100000 in
theorem amB (x y:Nat) (v u:Value) (w:World) (hv:aaD w v x) (hu:aaD w u y) (hx:(limbs x).length<=400000) (hy:(limbs y).length<=400000) :
  Calls Tryz.prog 119 #[v,u] w λe w'=>∃ r,e= .returned r/\aaD w' r (x*y)/\Own w.heap.size w w':=by
 obtain⟨a,rfl,hr⟩:=hv;obtain⟨b,rfl,hs⟩:=hu;have HX:=Lib.hid (val_limbs x);have HY:=Lib.hid (val_limbs y);have HLX:=Lib.hid (limbs_limb x);have HLY:=Lib.hid (limbs_limb y);have HR:=Lib.hid hr;have HS:=Lib.hid hs;clear hr hs;obtain⟨l,hl⟩:∃ l,l=limbs x:=⟨_,rfl⟩
 obtain⟨m,hm⟩:∃ m,m=limbs y:=⟨_,rfl⟩
 rw[<- hl] at HX HLX HR hx ⊢;rw[<- hm] at HY HLY HS hy ⊢;clear hl hm;obtain⟨w1,hmk,hb0,hgk⟩:=afX (((w.alloc (.cells #[.slice a l.length l.length] 35)).alloc (.cells #[.slice b m.length m.length] 35)).alloc (.cells #[.slice none 0 0] 35)) (l.length+m.length) (by omega);have HB1:Hid (aak 35 (((w.alloc (.cells #[.slice a l.length l.length] 35)).alloc (.cells #[.slice b m.length m.length] 35)).alloc (.cells #[.slice none 0 0] 35)) w.heap.size [.slice a l.length l.length]):=((aak.new _ w [.slice a l.length l.length]).still (aab _ _ none)).still (aab _ _ none);have HB2:Hid (aak 35 (((w.alloc (.cells #[.slice a l.length l.length] 35)).alloc (.cells #[.slice b m.length m.length] 35)).alloc (.cells #[.slice none 0 0] 35)) (w.heap.size+1) [.slice b m.length m.length]):=(aaN (cs:=[.slice b m.length m.length]) (by simp)).still (aab _ _ none);have HB3:Hid (aak 35 (((w.alloc (.cells #[.slice a l.length l.length] 35)).alloc (.cells #[.slice b m.length m.length] 35)).alloc (.cells #[.slice none 0 0] 35)) (w.heap.size+1+1) [.slice none 0 0]):=aaN (cs:=[.slice none 0 0]) (by simp);have HG:Hid (Own w.heap.size w (((w.alloc (.cells #[.slice a l.length l.length] 35)).alloc (.cells #[.slice b m.length m.length] 35)).alloc (.cells #[.slice none 0 0] 35))):=((aap _ _).alloc (by simp) _).alloc (by simp;omega) _;have HC1:=Lib.hid (HB1.out.still (Gr.grown hgk));have HC2:=Lib.hid (HB2.out.still (Gr.grown hgk));have HC3:=Lib.hid (HB3.out.still (Gr.grown hgk));have HG1:Hid (Own w.heap.size w w1):=HG.out.call HG.out.size hgk;simp only[World.size_alloc] at hmk hb0;push_cast at hmk
 have HOUT:=Lib.hid hb0;have hwz:w.heap.size+1+1+1<w1.heap.size:=hb0.lt;have hd1:=HC1.out.cell 0;have hd2:=HC2.out.cell 0;simp only[List.getElem?_cons_zero] at hd1 hd2;clear hb0 hgk HB1 HB2 HB3 HG;go_enter Tryz.func119,Tryz.ntmps119
 go_wp2_with fail
 go_loopg [22] (l.length+1) (λk u wr=>Hid (ayu w b l m k u wr))
 case atStart=>exact⟨0,_,rfl,mul_start l m,Nat.zero_le _,by omega,HOUT.out,HC2.out,HC3.out,HG1.out⟩
 case round=>
  clear HOUT HC1 HC2 HC3 HG1 hd1 hd2 hmk;obtain⟨i,o,rfl,hat,hil,hik,hbo,hb2,hb3,hg⟩:=hrel.out;obtain⟨wo,hwo⟩:∃ q:World,q=wr:=⟨_,rfl⟩
  subst hwo;obtain⟨gO,hgO⟩:∃ q,q=gk:=⟨_,rfl⟩
  subst hgO;have HOUT:=Lib.hid hbo;have HAT:=Lib.hid hat;have HB2:=Lib.hid hb2;have HB3:=Lib.hid hb3;have HG:=Lib.hid hg;clear hrel hat hbo hb2 hb3 hg;have hb2:=HB2.out.cell 0;have hb3:=HB3.out.cell 0;have hf3:=HB3.out.free 0;have hsz3:=HB3.out.lt;simp only[List.getElem?_cons_zero] at hb2 hb3;by_cases hlt:i<l.length
  ·obtain⟨p,hp⟩:∃ p,l[i]? =some p:=⟨l[i]'(by omega),List.getElem?_eq_getElem _⟩
   have hpb:=HLX.out p (List.mem_of_getElem? hp);obtain⟨g,ha,hgl,hcell⟩:=((HR.out.own HG.out)).cells (by rintro h;rw[h] at hlt;simp at hlt);subst ha;have hc0:=hcell _ _ hp;have HP:=Lib.hid hp;have hlt2:(i:Int)<l.length:=by omega
   clear hp hcell;go_wp2_with fail
   go_loopg [8,30] (m.length+1) (λk c u wr=>Hid (arY w b l m i p k c u wr))
   case atStart=>exact⟨0,o,0,rfl,rfl,mul_in HAT.out,Nat.zero_le _,by omega,HOUT.out,HB2.out,HB3.out,HG.out⟩
   case round=>
    clear HOUT HAT HB2 HB3 HG hb2 hb3 hf3 hsz3 hc0;obtain⟨j,o,c,rfl,rfl,hat,hjl,hjk,hbo,hb2,hb3,hg⟩:=hrel.out;have HOUT:=Lib.hid hbo;have HAT:=Lib.hid hat;have HB2:=Lib.hid hb2;have HB3:=Lib.hid hb3;have HG:=Lib.hid hg;have hcb:c<4294967296:=hat.2.2.1;clear hrel hat hbo hb2 hb3 hg;have hb2:=HB2.out.cell 0;have hb3:=HB3.out.cell 0;have hf3:=HB3.out.free 0;have hsz3:=HB3.out.lt;simp only[List.getElem?_cons_zero] at hb2 hb3;by_cases hjt:j<m.length
    ·obtain⟨q,hq⟩:∃ q,m[j]? =some q:=⟨m[j]'(by omega),List.getElem?_eq_getElem _⟩
     have hqb:=HLY.out q (List.mem_of_getElem? hq);obtain⟨g2,ha2,hgl2,hcell2⟩:=((HS.out.own HG.out)).cells (by rintro h;rw[h] at hjt;simp at hjt);subst ha2;have hc2:=hcell2 _ _ hq;have HQ:=Lib.hid hq;obtain⟨r,hr,hrb⟩:=mul_at HAT.out hlt hjt;have HRR:=Lib.hid hr;have hc3:=aiZ HOUT.out hr;have hf4:=HOUT.out.free (i+j);have hjt2:(j:Int)<m.length:=by omega
     obtain⟨M,hM⟩:∃ M,M=p*q:=⟨_,rfl⟩
     have hMb:M<=4294967295*4294967295:=by rw[hM];exact Nat.mul_le_mul (by omega) (by omega)
     have hM2:(p:Int)*(q:Int)=(M:Int):=by rw[hM];push_cast;rfl
     obtain⟨Z,hZ⟩:∃ Z,Z=(c+(M+r))%4294967296:=⟨_,rfl⟩
     obtain⟨C,hC⟩:∃ C,C=(c+(M+r))/4294967296:=⟨_,rfl⟩
     have hz:((c:Int)+((M:Int)+(r:Int)))%4294967296=(Z:Int):=by omega
     have hc:((c:Int)+((M:Int)+(r:Int)))/4294967296=(C:Int):=by omega
     have hij:((i:Int)+(j:Int)).toNat=i+j:=by omega
     have hij1:(i:Int)+(j:Int)<(l.length:Int)+(m.length:Int):=by omega
     have hij0:0<=(i:Int)+(j:Int):=by omega
     have HN:Hid (MulIn l m i p (j+1) (o.set (i+j) Z) C):=by rw[hZ,hC,hM];exact mul_one HAT.out hpb HQ.out hqb HRR.out
     clear hq hcell2 hZ hC hM hr;go_wp2_with fail
     go_roundg (gk-1)
     case measure=>omega
     case rel=>
      exact⟨j+1,o.set (i+j) Z,C,rfl,by first | rfl | go_num,HN.out,by omega,by omega,aiY HOUT.out _ _,HB2.out.set_ne (by omega) _ _,HB3.out.set_ne (by omega) _ _,HG.out.set (by omega) _ _⟩
    ·have hjm:j=m.length:=by omega
     have hjt2:¬ (j:Int)<m.length:=by omega
     have hrb:i+m.length<o.length:=by have:=HAT.out.1;omega
     have hz:(c:Int)%4294967296=(c:Int):=by omega
     have him1:(i:Int)+(m.length:Int)<(l.length:Int)+(m.length:Int):=by omega
     have hij:((i:Int)+(m.length:Int)).toNat=i+m.length:=by omega
     have hij0:0<=(i:Int)+(m.length:Int):=by omega
     have hc3:=aiZ HOUT.out (List.getElem?_eq_getElem hrb);have hf4:=HOUT.out.free (i+m.length);have HN:Hid (MulAt l m (i+1) (o.set (i+m.length) c)):=mul_out (by rw[<- hjm];exact HAT.out) HP.out;clear hjm;go_wp2_with fail
     go_roundg (gO-1)
     case measure=>omega
     case rel=>
      exact⟨i+1,o.set (i+m.length) c,by first | rfl | go_num,HN.out,by omega,by omega,aiY HOUT.out _ _,HB2.out.set_ne (by omega) _ _,HB3.out.set_ne (by omega) _ _,HG.out.set (by omega) _ _⟩
  ·have hil2:i=l.length:=by omega
   have hlt2:¬ (i:Int)<l.length:=by omega
   obtain⟨he1,he2,he3⟩:=mul_end (l:=l) (m:=m) (o:=o) (by rw[<- hil2];exact HAT.out);have HE:=Lib.hid he1;have HV:Hid (valL o=x*y):=by show _=_;rw[he3,HX.out,HY.out]
   have HROW:Hid (abi wo (some ⟨w.heap.size+1+1+1,0,none⟩) o):=anj HOUT.out rfl;clear hil2 he1 he3;go_wp2_with fail
   refine (acW o _ _ _ _ HE.out HROW.out he2 (Nat.le_refl _) (by omega)).mono ?_;rintro e3 w3 ⟨v3,rfl,hv3,hg3⟩;rw[HV.out] at hv3;have HV3:=Lib.hid hv3;have HB33:=Lib.hid (HB3.out.still (Gr.grown hg3));have HW3:=Lib.hid (HG.out.call HG.out.size hg3);have hlt3:=HB33.out.lt;have hc3:=HB33.out.cell 0;have hf3:=HB33.out.free 0;simp only[List.getElem?_cons_zero] at hc3;obtain⟨a3,rfl,_⟩:=hv3;clear hg3;go_wp2_with fail
   refine acG rfl rfl rfl (HB33.out.set 0 _) ⟨_,rfl,?_⟩;exact abO HV3.out HB33.out (by decide) HW3.out (by omega)
end Go.Proofs.YtcmplpkmfbhpdaaGreat
