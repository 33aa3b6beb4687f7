import Derived.Test.YtcmplpkmfbhpdaaGreatGM
import Derived.Test.YtcmplpkmfbhpdaaGreatGPar
import Derived.Test.YtcmplpkmfbhpdaaGreatSyA
namespace Go.Proofs.YtcmplpkmfbhpdaaGreat
open Go Go.RowKit
theorem ag2 (x y:Nat) (v u:Value) (w:World) (hv:aaD w v x) (hu:aaD w u y) (hx:(limbs x).length<=800000) :
  Calls Tryz.prog 170 #[v,u] w λe w'=>av7 x y w' e/\Below w.heap.size w w':=by
 by_cases h0:y=0
 ·subst h0;exact akp x v u w hv hu
 by_cases h1:x<y
 ·exact akr x y v u w hv hu h1 (by omega)
 by_cases h2:(limbs y).length=1
 ·exact amD x y v u w hv hu (by omega) (by omega) h2
 ·refine akq x y v u w hv hu (by omega) hx ?_;have:limbs y≠[]:=λe=>h0 (acp.1 e);have:=List.length_pos_iff.2 this;omega
def ayv (w:World) (G k:Nat) (wr:World):Prop:=
 ∃ (x y:Nat) (a b:Option Addr),y<k/\Nat.gcd x y=G/\(limbs x).length<=800000/\(limbs y).length<=800000/\abi wr a (limbs x)/\abi wr b (limbs y)/\aak 35 wr w.heap.size [.slice a (limbs x).length (limbs x).length]/\
  aak 35 wr (w.heap.size+1) [.slice b (limbs y).length (limbs y).length]/\aak 35 wr (w.heap.size+1+1) [.slice none 0 0]/\Below w.heap.size w wr
set_option maxHeartbeats 4000000 in
set_option maxRecDepth 100000 in
theorem amC (x y:Nat) (v u:Value) (w:World) (hv:aaD w v x) (hu:aaD w u y) (hx:(limbs x).length<=800000) (hy:(limbs y).length<=800000) :
  Calls Tryz.prog 114 #[v,u] w λe w'=>∃ r,e= .returned r/\aaD w' r (Nat.gcd x y)/\Below w.heap.size w w':=by
 obtain⟨a,rfl,hr⟩:=hv;obtain⟨b,rfl,hs⟩:=hu;have HB1:Hid (aak 35 (((w.alloc (.cells #[.slice a (limbs x).length (limbs x).length] 35)).alloc (.cells #[.slice b (limbs y).length (limbs y).length] 35)).alloc (.cells #[.slice none 0 0] 35)) w.heap.size [.slice a (limbs x).length (limbs x).length]):=((aak.new _ w [.slice a (limbs x).length (limbs x).length]).still (aab _ _ none)).still (aab _ _ none);have HB2:Hid (aak 35 (((w.alloc (.cells #[.slice a (limbs x).length (limbs x).length] 35)).alloc (.cells #[.slice b (limbs y).length (limbs y).length] 35)).alloc (.cells #[.slice none 0 0] 35)) (w.heap.size+1) [.slice b (limbs y).length (limbs y).length]):=(aaN (cs:=[.slice b (limbs y).length (limbs y).length]) (by simp)).still (aab _ _ none);have HB3:Hid (aak 35 (((w.alloc (.cells #[.slice a (limbs x).length (limbs x).length] 35)).alloc (.cells #[.slice b (limbs y).length (limbs y).length] 35)).alloc (.cells #[.slice none 0 0] 35)) (w.heap.size+1+1) [.slice none 0 0]):=aaN (cs:=[.slice none 0 0]) (by simp);have HG:Hid (Own w.heap.size w (((w.alloc (.cells #[.slice a (limbs x).length (limbs x).length] 35)).alloc (.cells #[.slice b (limbs y).length (limbs y).length] 35)).alloc (.cells #[.slice none 0 0] 35))):=((aap _ _).alloc (by simp) _).alloc (by simp;omega) _;have HR:=Lib.hid (abi.own hr HG.out);have HS:=Lib.hid (abi.own hs HG.out);obtain⟨G,hG⟩:∃ G,Nat.gcd x y=G:=⟨_,rfl⟩
 have HGG:=Lib.hid hG;rw[hG];clear hr hs hG;go_enter Tryz.func114,Tryz.ntmps114
 go_wp2_with fail
 go_loopg [] (y+1) (λk wr=>Hid (ayv w G k wr))
 case atStart=>exact⟨x,y,a,b,by omega,HGG.out,hx,hy,HR.out,HS.out,HB1.out,HB2.out,HB3.out,HG.out.b⟩
 case round=>
  clear HB1 HB2 HB3 HG HR HS HGG;obtain⟨p,q,a,b,hqk,hgc,hpl,hql,hra,hrb,hb1,hb2,hb3,hbl⟩:=hrel.out;have HGC:=Lib.hid hgc;have HP:Hid (aaD wr (.agg #[.slice a (limbs p).length (limbs p).length]) p):=⟨a,rfl,hra⟩
  have HQ:Hid (aaD wr (.agg #[.slice b (limbs q).length (limbs q).length]) q):=⟨b,rfl,hrb⟩
  have HB1:=Lib.hid hb1;have HB2:=Lib.hid hb2;have HB3:=Lib.hid hb3;have HBL:=Lib.hid hbl;have HRB:=Lib.hid hrb;have HRA:=Lib.hid hra;have HPL:=Lib.hid hpl;have HQL:=Lib.hid hql;have x1:=acB hb1;have x2:=acB hb2;have x3:=acB hb3;have f1:=hb1.free 0;have f2:=hb2.free 0;have f3:=hb3.free 0;have l3:=hb3.lt;clear hrel hgc hra hrb hb1 hb2 hb3 hbl;by_cases h0:q=0
  ·subst h0;rw[limbs_zero] at x2;simp only[List.length_nil] at x2;have hgp:G=p:=by rw[<- HGC.out,Nat.gcd_zero_right]
   go_wp2_with fail
   refine acG rfl rfl rfl (HB3.out.set 0 _) ⟨_,rfl,?_,aay HBL.out (by omega) _ _⟩;rw[hgp];exact HP.out.keep (aaL HB3.out (by decide) _)
  ·have hq0:0<(limbs q).length:=List.length_pos_iff.2 (λe=>h0 (acp.1 e));have hq1:(0:Int)<((limbs q).length:Int):=by omega
   have HQ0:Hid (0<q):=Nat.pos_of_ne_zero h0;clear h0;go_wp2_with fail
   refine (ag2 p q _ _ _ HP.out HQ.out hpl).mono ?_;rintro e w1 ⟨hd,hb⟩;rcases hd with ⟨h,_⟩ | ⟨_,qv,rv,rfl,hqv,hrv⟩
   ·exact absurd h (by have:=HQ0.out;omega)
   have hm:p%q<q:=Nat.mod_lt _ HQ0.out;have HRV:=Lib.hid hrv;obtain⟨aq,rfl,hqr⟩:=hqv;obtain⟨ar,rfl,hrr⟩:=hrv;have hlr:=limbs_mono (Nat.le_of_lt hm);have HGC2:Hid (Nat.gcd q (p%q)=G):=by
    show _=_;rw[<- HGC.out,Nat.gcd_comm p q,Nat.gcd_rec q p,Nat.gcd_comm]
   have HC1:=Lib.hid (HB1.out.still (aar hb none));have HC2:=Lib.hid (HB2.out.still (aar hb none));have HC3:=Lib.hid (HB3.out.still (aar hb none));have HBL1:Hid (Below w.heap.size w w1):=HBL.out.trans (hb.mono HBL.out.size);have HRB1:=Lib.hid (HRB.out.keep (aaX hb));have HRR1:=Lib.hid hrr;obtain⟨nq,hnq⟩:∃ n,n=(limbs (p/q)).length:=⟨_,rfl⟩
   obtain⟨nr,hnr⟩:∃ n,n=(limbs (p%q)).length:=⟨_,rfl⟩
   obtain⟨n2,hn2⟩:∃ n,n=(limbs q).length:=⟨_,rfl⟩
   obtain⟨n1,hn1⟩:∃ n,n=(limbs p).length:=⟨_,rfl⟩
   rw[<- hnq,<- hnr];rw[<- hn1] at HC1;rw[<- hn2] at HC2;have x1:=acB HC1.out;have x2:=acB HC2.out;have f1:=HC1.out.free 0;have f2:=HC2.out.free 0;have l1:=HC1.out.lt;have l2:=HC2.out.lt;have HNR:=Lib.hid hnr;have HN2:=Lib.hid hn2;have hm2:p%q+1<gk:=by omega
   have HLR:=Lib.hid hlr;have HE2:Hid (aak 35 (w1.setCell ⟨w.heap.size,0,none⟩ (.slice b n2 n2)) (w.heap.size+1) [.slice b n2 n2]):=HC2.out.set_ne (by omega) 0 _;have HF1:Hid (aak 35 ((((w1.setCell ⟨w.heap.size,0,none⟩ (.slice b n2 n2)).setCell ⟨w.heap.size+1,0,none⟩ (.slice ar nr nr)).alloc (.cells #[.slice aq nq nq] 35)).alloc (.cells #[.slice ar nr nr] 35)) w.heap.size [.slice b n2 n2]):=(((HC1.out.set 0 (.slice b n2 n2)).set_ne (by omega) 0 _).still (aab _ _ none)).still (aab _ _ none);have HF2:Hid (aak 35 ((((w1.setCell ⟨w.heap.size,0,none⟩ (.slice b n2 n2)).setCell ⟨w.heap.size+1,0,none⟩ (.slice ar nr nr)).alloc (.cells #[.slice aq nq nq] 35)).alloc (.cells #[.slice ar nr nr] 35)) (w.heap.size+1) [.slice ar nr nr]):=((HE2.out.set 0 _).still (aab _ _ none)).still (aab _ _ none);have HF3:Hid (aak 35 ((((w1.setCell ⟨w.heap.size,0,none⟩ (.slice b n2 n2)).setCell ⟨w.heap.size+1,0,none⟩ (.slice ar nr nr)).alloc (.cells #[.slice aq nq nq] 35)).alloc (.cells #[.slice ar nr nr] 35)) (w.heap.size+1+1) [.slice none 0 0]):=(((HC3.out.set_ne (by omega) 0 _).set_ne (by omega) 0 _).still (aab _ _ none)).still (aab _ _ none);have HFK:Hid (aaR w1 ((((w1.setCell ⟨w.heap.size,0,none⟩ (.slice b n2 n2)).setCell ⟨w.heap.size+1,0,none⟩ (.slice ar nr nr)).alloc (.cells #[.slice aq nq nq] 35)).alloc (.cells #[.slice ar nr nr] 35))):=(((aaL HC1.out (by decide) _).trans (aaL HE2.out (by decide) _)).trans (aaC (aab _ _ none))).trans (aaC (aab _ _ none));have HFB0:Hid (Below w.heap.size w ((w1.setCell ⟨w.heap.size,0,none⟩ (.slice b n2 n2)).setCell ⟨w.heap.size+1,0,none⟩ (.slice ar nr nr))):=aay (aay HBL1.out (Nat.le_refl _) 0 _) (by omega) 0 _;have HFB:Hid (Below w.heap.size w ((((w1.setCell ⟨w.heap.size,0,none⟩ (.slice b n2 n2)).setCell ⟨w.heap.size+1,0,none⟩ (.slice ar nr nr)).alloc (.cells #[.slice aq nq nq] 35)).alloc (.cells #[.slice ar nr nr] 35))):=(HFB0.out.alloc HFB0.out.size _).alloc (by have:=HFB0.out.size;simp at this ⊢;omega) _;clear hb HB1 HB2 HB3 HBL HRB HP HQ HRA hqr hrr hnq hnr hn1 hn2 HRV hlr f3 l3 x3 hm;go_wp2_with fail
   go_region
   all_goals go_wp2_with fail
   all_goals go_roundg (gk-1)
   case measure=>omega
   case rel=>
    refine⟨q,p%q,b,ar,by omega,HGC2.out,HQL.out,by have:=HLR.out;have:=HQL.out;omega,HRB1.out.keep HFK.out,HRR1.out.keep HFK.out,?_,?_,HF3.out,abd HFB.out rfl rfl rfl rfl⟩
    ·rw[<- HN2.out];exact HF1.out
    ·rw[<- HNR.out];exact HF2.out
end Go.Proofs.YtcmplpkmfbhpdaaGreat
namespace Go.Proofs.YtcmplpkmfbhpdaaGreat
open Go Go.RowKit
def ZC (w:World) (cs:List Value) (z:Int):Prop:=∃ a,cs=[.slice a (limbs z.natAbs).length (limbs z.natAbs).length,.bool (decide (z<0))]/\abi w a (limbs z.natAbs)
def ZIs (w:World) (v:Value) (z:Int):Prop:=∃ cs,v= .agg cs.toArray/\ZC w cs z
theorem ZC.keep {w w':World} {cs:List Value} {z:Int} (h:ZC w cs z) (k:aaR w w'):ZC w' cs z:=by
 obtain⟨a,h1,h2⟩:=h;exact⟨a,h1,h2.keep k⟩
theorem ZIs.keep {w w':World} {v:Value} {z:Int} (h:ZIs w v z) (k:aaR w w'):ZIs w' v z:=by
 obtain⟨cs,h1,h2⟩:=h;exact⟨cs,h1,h2.keep k⟩
theorem Gr.zIs {w w':World} {v:Value} {z:Int} (g:Gr w w') (h:ZIs w v z):ZIs w' v z:=h.keep g.keep
theorem ZIs.parts {w:World} {v:Value} {z:Int} (h:ZIs w v z):∃ (a:Option Addr) (n:Nat) (b:Bool),v= .agg #[.slice a n n,.bool b]:=by
 obtain⟨cs,rfl,a,rfl,_⟩:=h;exact⟨a,_,_,rfl⟩
theorem afv {w:World} {a:Option Addr} {n:Nat} {b:Bool} {z:Int} (h:ZIs w (.agg #[.slice a n n,.bool b]) z):aaD w (.agg #[.slice a n n]) z.natAbs/\decide (z<0)=b:=by
 obtain⟨cs,e,a',rfl,h2⟩:=h;simp only[Value.agg.injEq,Array.mk.injEq,List.cons.injEq,Value.slice.injEq,Value.bool.injEq,and_true] at e;obtain⟨⟨rfl,h3,_⟩,rfl⟩:=e;exact⟨⟨a,by rw[<- h3],h2⟩,rfl⟩
theorem aAd {w:World} {a:Option Addr} {x:Nat} {b:Bool} {z:Int} {n:Nat} (h:abi w a (limbs x)) (hn:n=(limbs x).length) (hz:z.natAbs=x) (hb:decide (z<0)=b):ZIs w (.agg #[.slice a n n,.bool b]) z:=by
 subst hn hz hb;exact⟨_,rfl,a,rfl,h⟩
def adN (x:Nat) (b:Bool):Int:=if b then -(x:Int) else x
theorem alb (x:Nat) (b:Bool):(adN x b).natAbs=x:=by cases b<;>simp[adN]
theorem ala (x:Nat) (b:Bool):decide (adN x b<0)=(b && decide (0<x)):=by
 cases b
 ·simp[adN]
 ·simp[adN]
set_option maxHeartbeats 4000000 in
set_option maxRecDepth 100000 in
theorem ab6 (x:Nat) (b:Bool) (v:Value) (w:World) (hv:aaD w v x) (hx:(limbs x).length<=1000000) :
  Calls Tryz.prog 111 #[v,.bool b] w λe w'=>∃ r,e= .returned r/\ZIs w' r (adN x b)/\Own w.heap.size w w':=by
 have HV:=Lib.hid hv;obtain⟨a,rfl,hr⟩:=hv;have HR:=Lib.hid hr;have HXL:=Lib.hid hx;have HBP:=Lib.hid (aji x);obtain⟨n,hn⟩:∃ n,n=(limbs x).length:=⟨_,rfl⟩
 have HN:=Lib.hid hn;rw[<- hn] at HV ⊢;clear hn hr hx;have HB1:Hid (aak 35 ((w.alloc (.cells #[.slice a n n] 35)).alloc (.cells #[.slice none 0 0,.bool false] 37)) w.heap.size [.slice a n n]):=(aak.new _ w [.slice a n n]).still (aab _ _ none);have HB2:Hid (aak 37 ((w.alloc (.cells #[.slice a n n] 35)).alloc (.cells #[.slice none 0 0,.bool false] 37)) (w.heap.size+1) [.slice none 0 0,.bool false]):=aaN (cs:=[.slice none 0 0,.bool false]) (by simp);have HG:Hid (Own w.heap.size w ((w.alloc (.cells #[.slice a n n] 35)).alloc (.cells #[.slice none 0 0,.bool false] 37))):=(aap _ _).alloc (by simp) _;have HV1:=Lib.hid (Gr.natIs HG.out HV.out);have HV2:Hid (aaD ((w.alloc (.cells #[.slice a n n] 35)).alloc (.cells #[.slice none 0 0,.bool false] 37)).drew (.agg #[.slice a n n]) x):=HV1.out.keep (λ_ _ h=>h);cases b with
 |false=>
  go_enter Tryz.func111,Tryz.ntmps111
  go_wp2_with fail
  go_region
  all_goals go_wp2_with fail
  have HF:Hid (aak 37 ((w.alloc (.cells #[.slice a n n] 35)).alloc (.cells #[.slice a n n,.bool false] 37)).drew (w.heap.size+1) [.slice a n n,.bool false]):=aaN (w:=w.alloc (.cells #[.slice a n n] 35)) (cs:=[.slice a n n,.bool false]) (by simp);have HK:Hid (Own w.heap.size w ((w.alloc (.cells #[.slice a n n] 35)).alloc (.cells #[.slice a n n,.bool false] 37)).drew):=((aap _ _).alloc (by simp) _).drew;exact afU rfl (by kernel_rfl) (by kernel_rfl) rfl rfl HF.out ⟨_,rfl,aAd (HR.out.keep (Gr.keep HK.out)) HN.out (alb x false) (by rw[ala];rfl),HK.out⟩
 |true=>
  go_enter Tryz.func111,Tryz.ntmps111
  go_wp2_with fail
  have x1:=acB HB1.out;obtain⟨bb,hbb⟩:∃ b,decide (0<x)=b:=⟨_,rfl⟩
  have HBB:Hid ((true && decide (0<x))=bb):=by show _=_;rw[hbb];rfl
  have hbb2:decide ((0:Int)<(bitsN x:Int))=bb:=by
   rw[<- hbb];have:=HBP.out;rw[decide_eq_decide];omega
  have hbb3:decide (0<bitsN x)=bb:=by
   rw[<- hbb];have:=HBP.out;rw[decide_eq_decide];omega
  clear hbb;go_region_held3 (λw'=>w'.cell? ⟨w.heap.size,0,none⟩=some (.slice a n n)) (first | go_keep | exact aaw hg9 x1)
   ((go_at_call 144;refine (ad2 x _ _ HV2.out HXL.out).mono ?_;rintro e w9 ⟨rfl,hg9⟩;have HC2:=Lib.hid ((show aak 37 ((w.alloc (.cells #[.slice a n n] 35)).alloc (.cells #[.slice none 0 0,.bool false] 37)).drew (w.heap.size+1) [.slice none 0 0,.bool false] from HB2.out).still (Gr.grown hg9));have y0:=HC2.out.cell 0;have y1:=HC2.out.cell 1;have f0:=HC2.out.free 0;have f1:=HC2.out.free 1;simp only[List.getElem?_cons_zero,List.getElem?_cons_succ] at y0 y1))
  go_wp2_with fail
  have HL2:Hid (Own w.heap.size w w9):=HG.out.drew.call (by simpa using HG.out.size) hg9;have HF:Hid (aak 37 ((w9.setCell ⟨w.heap.size+1,0,none⟩ (.slice a n n)).setCell ⟨w.heap.size+1,1,none⟩ (.bool bb)) (w.heap.size+1) [.slice a n n,.bool bb]):=(HC2.out.set 0 (.slice a n n)).set 1 (.bool bb);have HK:Hid (aaR w9 ((w9.setCell ⟨w.heap.size+1,0,none⟩ (.slice a n n)).setCell ⟨w.heap.size+1,1,none⟩ (.bool bb))):=(aaL HC2.out (by decide) _).trans (aaL (HC2.out.set 0 (.slice a n n)) (by decide) _);have HK2:Hid (Own w.heap.size w ((w9.setCell ⟨w.heap.size+1,0,none⟩ (.slice a n n)).setCell ⟨w.heap.size+1,1,none⟩ (.bool bb))):=(HL2.out.set (by omega) 0 _).set (by omega) 1 _;exact afU rfl (by kernel_rfl) (by kernel_rfl) rfl rfl HF.out ⟨_,rfl,aAd ((HR.out.keep (Gr.keep HL2.out)).keep HK.out) HN.out (alb x true) (by rw[ala];exact HBB.out),HK2.out⟩
theorem adP {T:TypeId} {w0:World} {g:Nat} {c0 c1 x y:Value} {z:Int} (hv:ZIs w0 (.agg #[c0,c1]) z) (hB:aak T w0 g [x,y]) (hT:T≠213) :
  aak T ((w0.setCell ⟨g,0,none⟩ c0).setCell ⟨g,1,none⟩ c1) g [c0,c1]/\ZIs ((w0.setCell ⟨g,0,none⟩ c0).setCell ⟨g,1,none⟩ c1) (.agg #[c0,c1]) z/\aaR w0 ((w0.setCell ⟨g,0,none⟩ c0).setCell ⟨g,1,none⟩ c1):=by
 have hk:aaR w0 ((w0.setCell ⟨g,0,none⟩ c0).setCell ⟨g,1,none⟩ c1):=(aaL hB hT _).trans (aaL (hB.set 0 c0) hT _);exact⟨(hB.set 0 c0).set 1 c1,hv.keep hk,hk⟩
theorem ab5 {w w0:World} {B g:Nat} (h:Own B w w0) (hg:B<=g) (c0 c1:Value):Own B w ((w0.setCell ⟨g,0,none⟩ c0).setCell ⟨g,1,none⟩ c1):=(h.set hg 0 c0).set hg 1 c1
theorem agD {T:TypeId} {R:Ending->World->Prop} {a:Act} {w:World} {g:Nat} {x y:Value} {f:Func} {t:Tmp} (h:f.results= #[.cell t 37])
  (hp:a.tmps.getD t undef= .pointer (some ⟨g,0,none⟩)) (ha:a.defers=[]) (hB:aak T w g [x,y]) (hR:R (.returned (.agg #[x,y])) w):bodyPost Tryz.prog f R .ret a w:=
 afU h (by kernel_rfl) (by kernel_rfl) hp ha hB hR
theorem abV {T:TypeId} {w:World} {g:Nat} {x y:Value} (h:aak T w g [x,y]):w.cell? ⟨g,0,none⟩=some x/\w.cell? ⟨g,1,none⟩=some y/\w.frozen? ⟨g,0,none⟩=false/\w.frozen? ⟨g,1,none⟩=false/\g<w.heap.size:=
 ⟨by rw[h.cell 0];rfl,by rw[h.cell 1];rfl,h.free 0,h.free 1,h.lt⟩
set_option maxHeartbeats 4000000 in
set_option maxRecDepth 100000 in
theorem adr (n:Int) (w:World) (h0 : -9223372036854775808<=n) (h1:n<=9223372036854775807) :
  Calls Tryz.prog 58 #[.int .i64 n] w λe w'=>∃ r,e= .returned r/\ZIs w' r n/\Own w.heap.size w w':=by
 have HB:Hid (aak 37 (w.alloc (.cells #[.slice none 0 0,.bool false] 37)) w.heap.size [.slice none 0 0,.bool false]):=aak.new _ _ _;have HG:Hid (Own w.heap.size w (w.alloc (.cells #[.slice none 0 0,.bool false] 37))):=aap _ _;obtain⟨x,hx⟩:∃ x,x=n.natAbs:=⟨_,rfl⟩
 have hxl:(limbs x).length<=2:=(limbs_len x 2).2 (by omega);have hxb:x<18446744073709551616:=by omega
 by_cases hn:n<0
 ·have e1:IntKind.u64.wrap (-(n+1))+1=(x:Int):=by
   show (-(n+1))%18446744073709551616+1=_;omega
  have e2:(-(n+1))%18446744073709551616+1=(x:Int):=e1;have e3 : -(n+1)+1=(x:Int):=by omega
  have e4:adN x true=n:=by simp[adN];omega
  have HE:=Lib.hid e4;clear e4 hx;go_enter Tryz.func58,Tryz.ntmps58
  go_wp2_with fail
  refine (aev x _ hxb).mono ?_;rintro e w1 ⟨v1,rfl,hv1,hg1⟩;have HG1:=Lib.hid (HG.out.call HG.out.size hg1);have HB1:=Lib.hid (HB.out.still (Gr.grown hg1));have HV1:=Lib.hid hv1;obtain⟨a1,rfl,_⟩:=hv1;clear hg1 e1 e2 e3;go_wp2_with fail
  refine (ab6 x true _ _ HV1.out (by omega)).mono ?_;rintro e w2 ⟨v2,rfl,hv2,hg2⟩;rw[HE.out] at hv2;have HG2:=Lib.hid (HG1.out.call HG1.out.size hg2);have HB2:=Lib.hid (HB1.out.still (Gr.grown hg2));have HV2:=Lib.hid hv2;obtain⟨x0,x1,x2,x3,x4⟩:=abV HB2.out;obtain⟨a2,n2,b2,rfl⟩:=hv2.parts;clear hg2 hv2;go_wp2_with fail
  obtain⟨s1,s2,s3⟩:=adP HV2.out HB2.out (by decide);exact agD rfl rfl rfl s1 ⟨_,rfl,s2,ab5 HG2.out (Nat.le_refl _) _ _⟩
 ·have e1:IntKind.u64.wrap n=(x:Int):=by
   show n%18446744073709551616=_;omega
  have e2:n%18446744073709551616=(x:Int):=e1;have e4:adN x false=n:=by simp[adN];omega
  obtain⟨y,hy⟩:∃ y:Int,y=n:=⟨_,rfl⟩
  have hnx:n=(x:Int):=by omega
  subst hnx;have HE:=Lib.hid e4;clear e4 e1 e2 hx hy;go_enter Tryz.func58,Tryz.ntmps58
  go_wp2_with fail
  refine (aev x _ hxb).mono ?_;rintro e w1 ⟨v1,rfl,hv1,hg1⟩;have HG1:=Lib.hid (HG.out.call HG.out.size hg1);have HB1:=Lib.hid (HB.out.still (Gr.grown hg1));have HV1:=Lib.hid hv1;obtain⟨a1,rfl,_⟩:=hv1;clear hg1;go_wp2_with fail
  refine (ab6 x false _ _ HV1.out (by omega)).mono ?_;rintro e w2 ⟨v2,rfl,hv2,hg2⟩;rw[HE.out] at hv2;have HG2:=Lib.hid (HG1.out.call HG1.out.size hg2);have HB2:=Lib.hid (HB1.out.still (Gr.grown hg2));have HV2:=Lib.hid hv2;obtain⟨x0,x1,x2,x3,x4⟩:=abV HB2.out;obtain⟨a2,n2,b2,rfl⟩:=hv2.parts;clear hg2 hv2;go_wp2_with fail
  obtain⟨s1,s2,s3⟩:=adP HV2.out HB2.out (by decide);exact agD rfl rfl rfl s1 ⟨_,rfl,s2,ab5 HG2.out (Nat.le_refl _) _ _⟩
set_option maxHeartbeats 4000000 in
set_option maxRecDepth 100000 in
theorem aoy (x:Nat) (v:Value) (w:World) (hv:aaD w v x) (hx:(limbs x).length<=1000000) :
  Calls Tryz.prog 117 #[v] w λe w'=>∃ r,e= .returned r/\ZIs w' r (x:Int)/\Own w.heap.size w w':=by
 have HV:=Lib.hid hv;have HXL:=Lib.hid hx;obtain⟨a,rfl,_⟩:=hv;obtain⟨n,hn⟩:∃ n,n=(limbs x).length:=⟨_,rfl⟩
 rw[<- hn] at HV ⊢;clear hn hx;have HB:Hid (aak 37 ((w.alloc (.cells #[.slice a n n] 35)).alloc (.cells #[.slice none 0 0,.bool false] 37)) (w.heap.size+1) [.slice none 0 0,.bool false]):=aaN (cs:=[.slice none 0 0,.bool false]) (by simp);have HG:Hid (Own w.heap.size w ((w.alloc (.cells #[.slice a n n] 35)).alloc (.cells #[.slice none 0 0,.bool false] 37))):=(aap _ _).alloc (by simp) _;have HV1:=Lib.hid (Gr.natIs HG.out HV.out);go_enter Tryz.func117,Tryz.ntmps117
 go_wp2_with fail
 refine (ab6 x false _ _ HV1.out HXL.out).mono ?_;rintro e w2 ⟨v2,rfl,hv2,hg2⟩;have HG2:=Lib.hid (HG.out.call HG.out.size hg2);have HB2:=Lib.hid (HB.out.still (Gr.grown hg2));have HV2:Hid (ZIs w2 v2 (x:Int)):=hv2;obtain⟨x0,x1,x2,x3,x4⟩:=abV HB2.out;obtain⟨a2,n2,b2,rfl⟩:=hv2.parts;clear hg2 hv2;go_wp2_with fail
 obtain⟨s1,s2,s3⟩:=adP HV2.out HB2.out (by decide);exact agD rfl rfl rfl s1 ⟨_,rfl,s2,ab5 HG2.out (by omega) _ _⟩
end Go.Proofs.YtcmplpkmfbhpdaaGreat
namespace Go.Proofs.YtcmplpkmfbhpdaaGreat
open Go Go.RowKit
def abT (z:Int):Int:=if z<0 then -1 else if z=0 then 0 else 1
theorem auc {z:Int} {b:Bool} (h:decide (z<0)=b):adN z.natAbs (!b)= -z:=by
 subst h;by_cases hz:z<0
 ·simp[adN,hz];omega
 ·simp[adN,hz];omega
theorem ak9 {z:Int} {b:Bool} (h:decide (z<0)=b):adN z.natAbs b=z:=by
 subst h;by_cases hz:z<0
 ·simp[adN,hz];omega
 ·simp[adN,hz];omega
theorem aud {x y:Int} {b c:Bool} (h:decide (x<0)=b) (k:decide (y<0)=c):adN (x.natAbs*y.natAbs) (!(b == c))=x*y:=by
 have h1:=ak9 h;have h2:=ak9 k;have e1:x=adN x.natAbs b:=h1.symm;have e2:y=adN y.natAbs c:=h2.symm;conv=>rhs;rw[e1,e2]
 cases b<;>cases c<;>simp[adN,Int.mul_neg,Int.neg_mul]
section
variable (w:World) (a:Option Addr) (n:Nat) (b:Bool)
abbrev zW:World:=(w.alloc (.cells #[.slice a n n,.bool b] 37)).alloc (.cells #[.slice none 0 0,.bool false] 37)
theorem aAD:aak 37 (zW w a n b) w.heap.size [.slice a n n,.bool b]:=(aak.new _ w [.slice a n n,.bool b]).still (aab _ _ none)
theorem aAC:aak 37 (zW w a n b) (w.heap.size+1) [.slice none 0 0,.bool false]:=aaN (cs:=[.slice none 0 0,.bool false]) (by simp)
theorem aAB:Own w.heap.size w (zW w a n b):=(aap _ _).alloc (by simp) _
variable (c:Option Addr) (m:Nat) (d:Bool)
abbrev zV:World:=((w.alloc (.cells #[.slice a n n,.bool b] 37)).alloc (.cells #[.slice c m m,.bool d] 37)).alloc (.cells #[.slice none 0 0,.bool false] 37)
theorem ayP:aak 37 (zV w a n b c m d) w.heap.size [.slice a n n,.bool b]:=((aak.new _ w [.slice a n n,.bool b]).still (aab _ _ none)).still (aab _ _ none)
theorem ayO:aak 37 (zV w a n b c m d) (w.heap.size+1) [.slice c m m,.bool d]:=(aaN (cs:=[.slice c m m,.bool d]) (by simp)).still (aab _ _ none)
theorem ayN:aak 37 (zV w a n b c m d) (w.heap.size+1+1) [.slice none 0 0,.bool false]:=aaN (cs:=[.slice none 0 0,.bool false]) (by simp)
theorem ayM:Own w.heap.size w (zV w a n b c m d):=((aap _ _).alloc (by simp) _).alloc (by simp;omega) _
end
set_option maxHeartbeats 4000000 in
set_option maxRecDepth 100000 in
theorem afM (z:Int) (v:Value) (w:World) (hv:ZIs w v z) (hx:(limbs z.natAbs).length<=1000000) :
  Calls Tryz.prog 118 #[v] w λe w'=>∃ r,e= .returned r/\ZIs w' r (-z)/\Own w.heap.size w w':=by
 obtain⟨a,n,b,rfl⟩:=hv.parts;obtain⟨hn,hb⟩:=afv hv;have HXL:=Lib.hid hx;have HS:=Lib.hid (auc hb);have HB1:=Lib.hid (aAD w a n b);have HB2:=Lib.hid (aAC w a n b);have HG:=Lib.hid (aAB w a n b);have HN1:=Lib.hid (Gr.natIs HG.out hn);clear hv hn hb hx;go_enter Tryz.func118,Tryz.ntmps118
 go_wp2_with fail
 refine (ab6 z.natAbs (!b) _ _ HN1.out HXL.out).mono ?_;rintro e w2 ⟨v2,rfl,hv2,hg2⟩;rw[HS.out] at hv2;have HG2:=Lib.hid (HG.out.call HG.out.size hg2);have HC2:=Lib.hid (HB2.out.still (Gr.grown hg2));have HV2:=Lib.hid hv2;obtain⟨x0,x1,x2,x3,x4⟩:=abV HC2.out;obtain⟨a2,n2,b2,rfl⟩:=hv2.parts;clear hg2 hv2;go_wp2_with fail
 obtain⟨s1,s2,s3⟩:=adP HV2.out HC2.out (by decide);exact agD rfl rfl rfl s1 ⟨_,rfl,s2,ab5 HG2.out (by omega) _ _⟩
set_option maxHeartbeats 4000000 in
set_option maxRecDepth 100000 in
theorem aej (z:Int) (v:Value) (w:World) (hv:ZIs w v z) (hx:(limbs z.natAbs).length<=1000000) :
  Calls Tryz.prog 97 #[v] w λe w'=>e= .returned (.int .i64 (abT z))/\Own w.heap.size w w':=by
 obtain⟨a,n,b,rfl⟩:=hv.parts;obtain⟨hn,hb⟩:=afv hv;have HXL:=Lib.hid hx;have HG:Hid (Own w.heap.size w (w.alloc (.cells #[.slice a n n,.bool b] 37))):=aap _ _;have HN1:=Lib.hid (Gr.natIs HG.out hn);have HBP:=Lib.hid (aji z.natAbs);clear hv hn hx;cases b with
 |true=>
  have hz:z<0:=of_decide_eq_true hb;have hs:abT z= -1:=by unfold abT;rw[if_pos hz]
  clear hb hz;go_enter Tryz.func97,Tryz.ntmps97
  go_wp2_with fail
  go_ret
  exact⟨by first | rfl | exact abN hs.symm,HG.out⟩
 |false=>
  have hz:¬ z<0:=of_decide_eq_false hb;by_cases h0:z=0
  ·have hs:abT z=0:=by unfold abT;rw[if_neg hz,if_pos h0]
   have hbz:bitsN z.natAbs=0:=by have:=HBP.out;omega
   have hbz2:((bitsN z.natAbs:Int) == 0)=true:=by simp;omega
   have hbz3:(bitsN z.natAbs == 0)=true:=by simp;omega
   have HS:=Lib.hid hs;clear hb hz h0 hbz hs;go_enter Tryz.func97,Tryz.ntmps97
   go_wp2_with fail
   refine (ad2 z.natAbs _ _ HN1.out HXL.out).mono ?_;rintro e w2 ⟨rfl,hg2⟩;have HG2:=Lib.hid (HG.out.call HG.out.size hg2);clear hg2;go_wp2_with fail
   go_ret
   exact⟨by first | rfl | exact abN HS.out.symm,HG2.out⟩
  ·have hs:abT z=1:=by unfold abT;rw[if_neg hz,if_neg h0]
   have hbz2:((bitsN z.natAbs:Int) == 0)=false:=by have:=HBP.out;simp;omega
   have hbz3:(bitsN z.natAbs == 0)=false:=by have:=HBP.out;simp;omega
   have HS:=Lib.hid hs;clear hb hz h0 hs;go_enter Tryz.func97,Tryz.ntmps97
   go_wp2_with fail
   refine (ad2 z.natAbs _ _ HN1.out HXL.out).mono ?_;rintro e w2 ⟨rfl,hg2⟩;have HG2:=Lib.hid (HG.out.call HG.out.size hg2);clear hg2;go_wp2_with fail
   go_ret
   exact⟨by first | rfl | exact abN HS.out.symm,HG2.out⟩
set_option maxHeartbeats 4000000 in
set_option maxRecDepth 100000 in
theorem acd (x y:Int) (v u:Value) (w:World) (hv:ZIs w v x) (hu:ZIs w u y) (hx:(limbs x.natAbs).length<=400000) (hy:(limbs y.natAbs).length<=400000) :
  Calls Tryz.prog 60 #[v,u] w λe w'=>∃ r,e= .returned r/\ZIs w' r (x*y)/\Own w.heap.size w w':=by
 obtain⟨a,n,b,rfl⟩:=hv.parts;obtain⟨c,m,d,rfl⟩:=hu.parts;obtain⟨hn,hb⟩:=afv hv;obtain⟨hm,hd⟩:=afv hu;have HXL:=Lib.hid hx;have HYL:=Lib.hid hy;have HS:=Lib.hid (aud hb hd);have hml:(limbs (x.natAbs*y.natAbs)).length<=1000000:=by
  have h1:=val_lt (limbs_limb x.natAbs);have h2:=val_lt (limbs_limb y.natAbs);rw[val_limbs] at h1 h2;have h3:(limbs (x.natAbs*y.natAbs)).length<=(limbs x.natAbs).length+(limbs y.natAbs).length:=by
   rw[limbs_len,Nat.pow_add];exact Nat.mul_lt_mul'' h1 h2
  omega
 have HML:=Lib.hid hml;have HB1:=Lib.hid (ayP w a n b c m d);have HB2:=Lib.hid (ayO w a n b c m d);have HB3:Hid (aak 37 (zV w a n b c m d).drew (w.heap.size+1+1) [.slice none 0 0,.bool false]):=ayN w a n b c m d;have HG:Hid (Own w.heap.size w (zV w a n b c m d).drew):=(ayM w a n b c m d).drew;have HN1:=Lib.hid (Gr.natIs HG.out hn);have HN2:=Lib.hid (Gr.natIs HG.out hm);have x0:=(abV HB1.out).1;have x1:=(abV HB1.out).2.1;have x2:=(abV HB2.out).1;have x3:=(abV HB2.out).2.1;have ne1:¬ w.heap.size=w.heap.size+1+1:=by omega
 have ne2:¬ w.heap.size+1+1=w.heap.size:=by omega
 clear hv hu hn hm hb hd hx hy hml;go_enter Tryz.func60,Tryz.ntmps60
 go_wp2_with fail
 go_region_held3 (λw'=>w'.cell? ⟨w.heap.size,0,none⟩=some (.slice a n n)/\w'.cell? ⟨w.heap.size,1,none⟩=some (.bool b)/\w'.cell? ⟨w.heap.size+1,0,none⟩=some (.slice c m m)/\w'.cell? ⟨w.heap.size+1,1,none⟩=some (.bool d)) (first | go_keep | exact⟨aaw hg9 x0,aaw hg9 x1,aaw hg9 x2,aaw hg9 x3⟩ | exact⟨aaw hg8 (aaw hg9 x0),aaw hg8 (aaw hg9 x1),aaw hg8 (aaw hg9 x2),aaw hg8 (aaw hg9 x3)⟩ | (try dsimp only;repeat' apply And.intro;all_goals go_keep))
  (first
   |(go_at_call 119;refine (amB x.natAbs y.natAbs _ _ _ HN1.out HN2.out HXL.out HYL.out).mono ?_;rintro e w9 ⟨v9,rfl,hv9,hg9⟩;have HV9:=Lib.hid hv9;have HG9:=Lib.hid (HG.out.call HG.out.size hg9);have HC9:=Lib.hid (HB3.out.still (Gr.grown hg9));obtain⟨a9,rfl,_⟩:=hv9)
   |(go_at_call 111;refine (ab6 _ _ _ _ HV9.out HML.out).mono ?_;rintro e w8 ⟨v8,rfl,hv8,hg8⟩;rw[HS.out] at hv8;have HV8:=Lib.hid hv8;have HG8:=Lib.hid (HG9.out.call HG9.out.size hg8);have HC8:=Lib.hid (HC9.out.still (Gr.grown hg8));obtain⟨y0,y1,y2,y3,y4⟩:=abV HC8.out;obtain⟨a8,n8,b8,rfl⟩:=hv8.parts;clear hv8))
 go_wp2_with fail
 obtain⟨s1,s2,s3⟩:=adP HV8.out HC8.out (by decide);exact agD rfl rfl rfl s1 ⟨_,rfl,s2,ab5 HG8.out (by omega) _ _⟩
end Go.Proofs.YtcmplpkmfbhpdaaGreat
namespace Go.Proofs.YtcmplpkmfbhpdaaGreat
open Go Go.RowKit
theorem akw {x y:Int} (hx:¬ x<0) (hy:¬ y<0):abe (x.natAbs:Int) (y.natAbs:Int)=abe x y:=by
 have e1:(x.natAbs:Int)=x:=by omega
 have e2:(y.natAbs:Int)=y:=by omega
 rw[e1,e2]
theorem akx {x y:Int} (hx:x<0) (hy:y<0):abe (y.natAbs:Int) (x.natAbs:Int)=abe x y:=by
 unfold abe;by_cases h1:x<y
 ·rw[if_pos (by omega),if_pos h1]
 ·rw[if_neg (by omega),if_neg h1];by_cases h2:y<x
  ·rw[if_pos (by omega),if_pos h2]
  ·rw[if_neg (by omega),if_neg h2]
set_option maxHeartbeats 4000000 in
set_option maxRecDepth 100000 in
theorem ak2 (x y:Int) (v u:Value) (w:World) (hv:ZIs w v x) (hu:ZIs w u y) (hx:(limbs x.natAbs).length<=1000000) (hy:(limbs y.natAbs).length<=1000000) :
  Calls Tryz.prog 104 #[v,u] w λe w'=>e= .returned (.int .i64 (abe x y))/\Own w.heap.size w w':=by
 obtain⟨a,n,b,rfl⟩:=hv.parts;obtain⟨c,m,d,rfl⟩:=hu.parts;obtain⟨hn,hb⟩:=afv hv;obtain⟨hm,hd⟩:=afv hu;have HXL:=Lib.hid hx;have HYL:=Lib.hid hy;have HG:Hid (Own w.heap.size w ((w.alloc (.cells #[.slice a n n,.bool b] 37)).alloc (.cells #[.slice c m m,.bool d] 37))):=(aap _ _).alloc (by simp) _;have HN1:=Lib.hid (Gr.natIs HG.out hn);have HN2:=Lib.hid (Gr.natIs HG.out hm);clear hv hu hn hm hx hy;cases b with
 |true=>
  have hx:x<0:=of_decide_eq_true hb;cases d with
  |true=>
   have HS:=Lib.hid (akx hx (of_decide_eq_true hd));clear hb hd hx;go_enter Tryz.func104,Tryz.ntmps104
   go_wp2_with fail
   refine (ab1 y.natAbs x.natAbs _ _ _ HN2.out HN1.out HYL.out).mono ?_;rintro e w2 ⟨rfl,hg2⟩;have HG2:=Lib.hid (HG.out.call HG.out.size hg2);clear hg2;go_wp2_with fail
   go_ret
   exact⟨by first | rfl | exact abN HS.out,HG2.out⟩
  |false=>
   have hy:¬ y<0:=of_decide_eq_false hd;have hs:abe x y= -1:=by unfold abe;rw[if_pos (by omega)]
   clear hb hd hx hy;go_enter Tryz.func104,Tryz.ntmps104
   go_wp2_with fail
   go_ret
   exact⟨by first | rfl | exact abN hs.symm,HG.out⟩
 |false=>
  have hx:¬ x<0:=of_decide_eq_false hb;cases d with
  |true=>
   have hy:y<0:=of_decide_eq_true hd;have hs:abe x y=1:=by unfold abe;rw[if_neg (by omega),if_pos (by omega)]
   clear hb hd hx hy;go_enter Tryz.func104,Tryz.ntmps104
   go_wp2_with fail
   go_ret
   exact⟨by first | rfl | exact abN hs.symm,HG.out⟩
  |false=>
   have HS:=Lib.hid (akw hx (of_decide_eq_false hd));clear hb hd hx;go_enter Tryz.func104,Tryz.ntmps104
   go_wp2_with fail
   refine (ab1 x.natAbs y.natAbs _ _ _ HN1.out HN2.out HXL.out).mono ?_;rintro e w2 ⟨rfl,hg2⟩;have HG2:=Lib.hid (HG.out.call HG.out.size hg2);clear hg2;go_wp2_with fail
   go_ret
   exact⟨by first | rfl | exact abN HS.out,HG2.out⟩
set_option maxHeartbeats 4000000 in
set_option maxRecDepth 100000 in
theorem aoE (z:Int) (v:Value) (w:World) (hv:ZIs w v z) :
  Calls Tryz.prog 113 #[v] w λe w'=>∃ r,e= .returned r/\aaD w' r z.natAbs/\Own w.heap.size w w':=by
 obtain⟨a,n,b,rfl⟩:=hv.parts;obtain⟨hn,hb⟩:=afv hv;have HB:Hid (aak 35 ((w.alloc (.cells #[.slice a n n,.bool b] 37)).alloc (.cells #[.slice a n n] 35)) (w.heap.size+1) [.slice a n n]):=aaN (cs:=[.slice a n n]) (by simp);have HG:Hid (Own w.heap.size w ((w.alloc (.cells #[.slice a n n,.bool b] 37)).alloc (.cells #[.slice a n n] 35))):=(aap _ _).alloc (by simp) _;have HN1:=Lib.hid (Gr.natIs HG.out hn);clear hv hn hb;go_enter Tryz.func113,Tryz.ntmps113
 go_wp2_with fail
 exact acG rfl rfl rfl HB.out ⟨_,rfl,HN1.out,HG.out⟩
end Go.Proofs.YtcmplpkmfbhpdaaGreat
namespace Go.Proofs.YtcmplpkmfbhpdaaGreat
open Go Go.RowKit
theorem ajm {x y:Int} {b:Bool} (h:decide (x<0)=b) (k:decide (y<0)=b):adN (x.natAbs+y.natAbs) b=x+y:=by
 cases b
 ·have:=of_decide_eq_false h;have:=of_decide_eq_false k;simp[adN];omega
 ·have:=of_decide_eq_true h;have:=of_decide_eq_true k;simp[adN];omega
theorem amp {x y:Int} {b:Bool} (h:decide (x<0)=b) (k:decide (y<0)= !b) (hle:y.natAbs<=x.natAbs):adN (x.natAbs-y.natAbs) b=x+y:=by
 cases b
 ·have:=of_decide_eq_false h;have:=of_decide_eq_true k;simp[adN];omega
 ·have:=of_decide_eq_true h;have:=of_decide_eq_false k;simp[adN];omega
theorem amo {x y:Int} {b:Bool} (h:decide (x<0)=b) (k:decide (y<0)= !b) (hlt:x.natAbs<y.natAbs):adN (y.natAbs-x.natAbs) (!b)=x+y:=by
 cases b
 ·have:=of_decide_eq_false h;have:=of_decide_eq_true k;simp[adN];omega
 ·have:=of_decide_eq_true h;have:=of_decide_eq_false k;simp[adN];omega
theorem avF (x y:Nat) {k:Nat} (hx:(limbs x).length<=k) (hy:(limbs y).length<=k):(limbs (x+y)).length<=k+1:=by
 rw[limbs_len] at hx hy ⊢;rw[Nat.pow_succ];omega
set_option maxHeartbeats 8000000 in
set_option maxRecDepth 100000 in
theorem aql (x y:Int) (v u:Value) (w:World) (hv:ZIs w v x) (hu:ZIs w u y) (hx:(limbs x.natAbs).length<=900000) (hy:(limbs y.natAbs).length<=900000) :
  Calls Tryz.prog 62 #[v,u] w λe w'=>∃ r,e= .returned r/\ZIs w' r (x+y)/\Own w.heap.size w w':=by
 obtain⟨a,n,b,rfl⟩:=hv.parts;obtain⟨c,m,d,rfl⟩:=hu.parts;obtain⟨hn,hb⟩:=afv hv;obtain⟨hm,hd⟩:=afv hu;have HXL:=Lib.hid hx;have HYL:=Lib.hid hy;have HML:=Lib.hid (avF x.natAbs y.natAbs hx hy);have ne1:¬ w.heap.size=w.heap.size+1+1:=by omega
 have ne2:¬ w.heap.size+1+1=w.heap.size:=by omega
 by_cases hbd:d=b
 ·subst hbd;have HS:=Lib.hid (ajm hb hd);have HB1:=Lib.hid (ayP w a n d c m d);have HB2:=Lib.hid (ayO w a n d c m d);have HB3:Hid (aak 37 (zV w a n d c m d).drew (w.heap.size+1+1) [.slice none 0 0,.bool false]):=ayN w a n d c m d;have HG:Hid (Own w.heap.size w (zV w a n d c m d).drew):=(ayM w a n d c m d).drew;have HN1:=Lib.hid (Gr.natIs HG.out hn);have HN2:=Lib.hid (Gr.natIs HG.out hm);have x0:=(abV HB1.out).1;have x1:=(abV HB1.out).2.1;have x2:=(abV HB2.out).1;have hdd:(d == d)=true:=by simp
  clear hv hu hn hm hb hd hx hy;go_enter Tryz.func62,Tryz.ntmps62
  go_wp2_with fail
  go_region_held3 (λw'=>w'.cell? ⟨w.heap.size,0,none⟩=some (.slice a n n)/\w'.cell? ⟨w.heap.size,1,none⟩=some (.bool d)/\w'.cell? ⟨w.heap.size+1,0,none⟩=some (.slice c m m)) (first | go_keep | exact⟨aaw hg9 x0,aaw hg9 x1,aaw hg9 x2⟩ | exact⟨aaw hg8 (aaw hg9 x0),aaw hg8 (aaw hg9 x1),aaw hg8 (aaw hg9 x2)⟩ | (try dsimp only;repeat' apply And.intro;all_goals go_keep))
   (first
    |(go_at_call 120;refine (amE x.natAbs y.natAbs _ _ _ HN1.out HN2.out HXL.out HYL.out).mono ?_;rintro e w9 ⟨v9,rfl,hv9,hg9⟩;have HV9:=Lib.hid hv9;have HG9:=Lib.hid (HG.out.call HG.out.size hg9);have HC9:=Lib.hid (HB3.out.still (Gr.grown hg9));obtain⟨a9,rfl,_⟩:=hv9)
    |(go_at_call 111;refine (ab6 _ _ _ _ HV9.out (by have:=HML.out;omega)).mono ?_;rintro e w8 ⟨v8,rfl,hv8,hg8⟩;rw[HS.out] at hv8;have HV8:=Lib.hid hv8;have HG8:=Lib.hid (HG9.out.call HG9.out.size hg8);have HC8:=Lib.hid (HC9.out.still (Gr.grown hg8));obtain⟨y0,y1,y2,y3,y4⟩:=abV HC8.out;obtain⟨a8,n8,b8,rfl⟩:=hv8.parts;clear hv8))
  go_wp2_with fail
  obtain⟨s1,s2,s3⟩:=adP HV8.out HC8.out (by decide);exact agD rfl rfl rfl s1 ⟨_,rfl,s2,ab5 HG8.out (by omega) _ _⟩
 ·have hdb:d= !b:=by cases b<;>cases d<;>simp_all
  subst hdb;have HSG:=Lib.hid (λh=>amp (x:=x) (y:=y) hb hd h);have HSL:=Lib.hid (λh=>amo (x:=x) (y:=y) hb hd h);have HB1:=Lib.hid (ayP w a n b c m (!b));have HB2:=Lib.hid (ayO w a n b c m (!b));have HB3:=Lib.hid (ayN w a n b c m (!b));have HG:=Lib.hid (ayM w a n b c m (!b));have HN1:=Lib.hid (Gr.natIs HG.out hn);have HN2:=Lib.hid (Gr.natIs HG.out hm);have hdd:(b == !b)=false:=by cases b<;>rfl
  clear hv hu hn hm hb hd hx hy hbd;go_enter Tryz.func62,Tryz.ntmps62
  go_wp2_with fail
  refine (ag1 x.natAbs y.natAbs _ _ _ HN1.out HN2.out HXL.out).mono ?_;rintro e w1 ⟨hs,hg1⟩;have HG1:=Lib.hid (HG.out.call HG.out.size hg1);have HC1:=Lib.hid (HB1.out.still (Gr.grown hg1));have HC2:=Lib.hid (HB2.out.still (Gr.grown hg1));have HC3:=Lib.hid (HB3.out.still (Gr.grown hg1));have HN3:=Lib.hid (Gr.natIs hg1 HN1.out);have HN4:=Lib.hid (Gr.natIs hg1 HN2.out);obtain⟨x0,x1,_,_,x4⟩:=abV HC1.out;obtain⟨y0,y1,_,_,y4⟩:=abV HC2.out;obtain⟨z0,z1,z2,z3,z4⟩:=abV HC3.out;clear hg1 HN1 HN2 HB1 HB2 HB3 HG;rcases hs with ⟨hle,r,rfl,hr⟩ | ⟨hlt,r,rfl,hr⟩
  ·have HS:=Lib.hid (HSG.out hle);have HR:=Lib.hid hr;obtain⟨ar,rfl,_⟩:=hr;obtain⟨nr,hnr⟩:∃ q,q=(limbs (x.natAbs-y.natAbs)).length:=⟨_,rfl⟩
   rw[<- hnr] at HR ⊢;have hlr:(limbs (x.natAbs-y.natAbs)).length<=900000:=Nat.le_trans (limbs_mono (Nat.sub_le _ _)) HXL.out;have HLR:=Lib.hid hlr;have HG2:=Lib.hid (HG1.out.alloc HG1.out.size (.cells #[.slice ar nr nr] 35));have HD3:=Lib.hid (HC3.out.still (aab _ (.cells #[.slice ar nr nr] 35) none));have HR2:=Lib.hid (Gr.natIs (aap _ (.cells #[.slice ar nr nr] 35)) HR.out);clear hle hnr hlr HSG HSL HN3 HN4;go_wp2_with fail
   refine (ab6 _ b _ _ HR2.out (by have:=HLR.out;omega)).mono ?_;rintro e w8 ⟨v8,rfl,hv8,hg8⟩;rw[HS.out] at hv8;have HV8:=Lib.hid hv8;have HG8:=Lib.hid (HG2.out.call HG2.out.size hg8);have HC8:=Lib.hid (HD3.out.still (Gr.grown hg8));obtain⟨t0,t1,t2,t3,t4⟩:=abV HC8.out;obtain⟨a8,n8,b8,rfl⟩:=hv8.parts;clear hv8 hg8;go_wp2_with fail
   obtain⟨s1,s2,s3⟩:=adP HV8.out HC8.out (by decide);exact agD rfl rfl rfl s1 ⟨_,rfl,s2,ab5 HG8.out (by omega) _ _⟩
  ·have HS:=Lib.hid (HSL.out hlt);obtain⟨ar,rfl,_⟩:=hr;rw[limbs_zero];have HLT:=Lib.hid hlt;have HG2:=Lib.hid (HG1.out.alloc HG1.out.size (.cells #[.slice ar 0 0] 35));have HD2:=Lib.hid (HC2.out.still (aab _ (.cells #[.slice ar 0 0] 35) none));have HD3:=Lib.hid (HC3.out.still (aab _ (.cells #[.slice ar 0 0] 35) none));have HN5:=Lib.hid (Gr.natIs (aap _ (.cells #[.slice ar 0 0] 35)) HN3.out);have HN6:=Lib.hid (Gr.natIs (aap _ (.cells #[.slice ar 0 0] 35)) HN4.out);clear hlt HSG HSL HN3 HN4;go_wp2_with fail
   refine (ag1 y.natAbs x.natAbs _ _ _ HN6.out HN5.out HYL.out).mono ?_;rintro e w3 ⟨hs,hg3⟩;rcases hs with ⟨_,r,rfl,hr⟩ | ⟨hl,_⟩
   case inr=>exact absurd hl (by have:=HLT.out;omega)
   have HG3:=Lib.hid (HG2.out.call HG2.out.size hg3);have HE2:=Lib.hid (HD2.out.still (Gr.grown hg3));have HE3:=Lib.hid (HD3.out.still (Gr.grown hg3));have HR:=Lib.hid hr;obtain⟨af,rfl,_⟩:=hr;obtain⟨nr,hnr⟩:∃ q,q=(limbs (y.natAbs-x.natAbs)).length:=⟨_,rfl⟩
   rw[<- hnr] at HR ⊢;have hlr:(limbs (y.natAbs-x.natAbs)).length<=900000:=Nat.le_trans (limbs_mono (Nat.sub_le _ _)) HYL.out;have HLR:=Lib.hid hlr;obtain⟨p0,p1,_,_,p4⟩:=abV HE2.out;have HG4:=Lib.hid (HG3.out.alloc HG3.out.size (.cells #[.slice af nr nr] 35));have HF3:=Lib.hid (HE3.out.still (aab _ (.cells #[.slice af nr nr] 35) none));have HR2:=Lib.hid (Gr.natIs (aap _ (.cells #[.slice af nr nr] 35)) HR.out);clear hg3 hnr hlr;go_wp2_with fail
   refine (ab6 _ (!b) _ _ HR2.out (by have:=HLR.out;omega)).mono ?_;rintro e w8 ⟨v8,rfl,hv8,hg8⟩;rw[HS.out] at hv8;have HV8:=Lib.hid hv8;have HG8:=Lib.hid (HG4.out.call HG4.out.size hg8);have HC8:=Lib.hid (HF3.out.still (Gr.grown hg8));obtain⟨t0,t1,t2,t3,t4⟩:=abV HC8.out;obtain⟨a8,n8,b8,rfl⟩:=hv8.parts;clear hv8 hg8;go_wp2_with fail
   obtain⟨s1,s2,s3⟩:=adP HV8.out HC8.out (by decide);exact agD rfl rfl rfl s1 ⟨_,rfl,s2,ab5 HG8.out (by omega) _ _⟩
end Go.Proofs.YtcmplpkmfbhpdaaGreat
namespace Go.Proofs.YtcmplpkmfbhpdaaGreat
open Go Go.RowKit
end Go.Proofs.YtcmplpkmfbhpdaaGreat
namespace Go.Proofs.YtcmplpkmfbhpdaaGreat
open Go Go.RowKit
def RC (w:World) (cs:List Value) (q:Rat):Prop:=∃ c1 c2 D,cs=c1++c2/\ZC w c1 q.num/\ZC w c2 D/\(D=q.den\/(D=0/\q.den=1))
def RIs (w:World) (v:Value) (q:Rat):Prop:=∃ cs,v= .agg cs.toArray/\RC w cs q
theorem RC.keep {w w':World} {cs:List Value} {q:Rat} (h:RC w cs q) (k:aaR w w'):RC w' cs q:=by
 obtain⟨c1,c2,D,h1,h2,h3,h4⟩:=h;exact⟨c1,c2,D,h1,h2.keep k,h3.keep k,h4⟩
theorem RIs.keep {w w':World} {v:Value} {q:Rat} (h:RIs w v q) (k:aaR w w'):RIs w' v q:=by
 obtain⟨cs,h1,h2⟩:=h;exact⟨cs,h1,h2.keep k⟩
theorem RIs.parts {w:World} {v:Value} {q:Rat} (h:RIs w v q):∃ (a:Option Addr) (n:Nat) (b:Bool) (c:Option Addr) (m:Nat) (d:Bool),v= .agg #[.slice a n n,.bool b,.slice c m m,.bool d]:=by
 obtain⟨cs,rfl,c1,c2,D,rfl,⟨a,rfl,_⟩,⟨c,rfl,_⟩,_⟩:=h;exact⟨a,_,_,c,_,_,rfl⟩
theorem acl {w:World} {a c:Option Addr} {n m:Nat} {b d:Bool} {q:Rat} (h:RIs w (.agg #[.slice a n n,.bool b,.slice c m m,.bool d]) q) :
  ZIs w (.agg #[.slice a n n,.bool b]) q.num/\∃ D,ZIs w (.agg #[.slice c m m,.bool d]) D/\(D=q.den\/(D=0/\q.den=1)):=by
 obtain⟨cs,e,c1,c2,D,rfl,⟨a',rfl,h1⟩,⟨c',rfl,h2⟩,h3⟩:=h;simp only[Value.agg.injEq,List.cons_append,List.nil_append,Array.mk.injEq,List.cons.injEq,Value.slice.injEq,Value.bool.injEq,and_true] at e;obtain⟨⟨rfl,rfl,_⟩,rfl,⟨rfl,rfl,_⟩,rfl⟩:=e;exact⟨⟨_,rfl,a,rfl,h1⟩,D,⟨_,rfl,c,rfl,h2⟩,h3⟩
theorem avX {w:World} {a c:Option Addr} {n m:Nat} {b d:Bool} {q:Rat} (h1:ZIs w (.agg #[.slice a n n,.bool b]) q.num) (h2:ZIs w (.agg #[.slice c m m,.bool d]) q.den):RIs w (.agg #[.slice a n n,.bool b,.slice c m m,.bool d]) q:=by
 obtain⟨c1,e1,h1⟩:=h1;obtain⟨c2,e2,h2⟩:=h2;refine⟨c1++c2,?_,c1,c2,_,rfl,h1,h2,.inl rfl⟩;simp only[Value.agg.injEq] at e1 e2;have f1:=congrArg Array.toList e1;have f2:=congrArg Array.toList e2;simp only at f1 f2;rw[<- f1,<- f2];rfl
theorem ak7 {z:Int} (h:z≠0):((abT z) == 0)=false:=by
 unfold abT;by_cases h1:z<0
 ·simp[h1]
 ·simp[h1,h]
section
variable (w:World) (a:Option Addr) (n:Nat) (b:Bool) (c:Option Addr) (m:Nat) (d:Bool)
abbrev rzW:World:=(w.alloc (.cells #[.slice a n n,.bool b,.slice c m m,.bool d] 39)).alloc (.cells #[.slice none 0 0,.bool false] 37)
theorem azz:aak 39 (rzW w a n b c m d) w.heap.size [.slice a n n,.bool b,.slice c m m,.bool d]:=(aak.new _ w [.slice a n n,.bool b,.slice c m m,.bool d]).still (aab _ _ none)
theorem azy:aak 37 (rzW w a n b c m d) (w.heap.size+1) [.slice none 0 0,.bool false]:=aaN (cs:=[.slice none 0 0,.bool false]) (by simp)
theorem azx:Own w.heap.size w (rzW w a n b c m d):=(aap _ _).alloc (by simp) _
end
theorem aie {T:TypeId} {w:World} {g:Nat} {x y z t:Value} (h:aak T w g [x,y,z,t]):w.cell? ⟨g,0,none⟩=some x/\w.cell? ⟨g,1,none⟩=some y/\w.cell? ⟨g,2,none⟩=some z/\w.cell? ⟨g,3,none⟩=some t:=
 ⟨by rw[h.cell 0];rfl,by rw[h.cell 1];rfl,by rw[h.cell 2];rfl,by rw[h.cell 3];rfl⟩
set_option maxHeartbeats 4000000 in
set_option maxRecDepth 100000 in
theorem acm (q:Rat) (v:Value) (w:World) (hv:RIs w v q) (hx:(limbs q.den).length<=1000000) :
  Calls Tryz.prog 61 #[v] w λe w'=>∃ r,e= .returned r/\ZIs w' r (q.den:Int)/\Own w.heap.size w w':=by
 obtain⟨a,n,b,c,m,d,rfl⟩:=hv.parts;obtain⟨_,D,hD,hd⟩:=acl hv;have HB1:=Lib.hid (azz w a n b c m d);have HB2:=Lib.hid (azy w a n b c m d);have HG:=Lib.hid (azx w a n b c m d);have HD:=Lib.hid (Gr.zIs HG.out hD);have hDl:(limbs D.natAbs).length<=1000000:=by
  rcases hd with rfl | ⟨rfl,_⟩
  ·exact hx
  ·rw[Int.natAbs_zero,limbs_zero];simp
 have HDL:=Lib.hid hDl;have HQ:=Lib.hid (acN q);have HDD:=Lib.hid hd;clear hv hD hx hDl hd;go_enter Tryz.func61,Tryz.ntmps61
 go_wp2_with fail
 refine (aej D _ _ HD.out HDL.out).mono ?_;rintro e w1 ⟨rfl,hg1⟩;have HG1:=Lib.hid (HG.out.call HG.out.size hg1);have HC1:=Lib.hid (HB1.out.still (Gr.grown hg1));have HC2:=Lib.hid (HB2.out.still (Gr.grown hg1));have HD1:=Lib.hid (Gr.zIs hg1 HD.out);clear hg1 HB1 HB2 HG HD;by_cases h0:D=0
 ·subst h0;have hs:(abT 0 == 0)=true:=rfl;have hq1:(q.den:Int)=1:=by
   rcases HDD.out with h | ⟨_,h⟩
   ·exact absurd h.symm HQ.out
   ·rw[h];rfl
  go_wp2_with fail
  refine (adr 1 _ (by omega) (by omega)).mono ?_;rintro e w2 ⟨v2,rfl,hv2,hg2⟩;rw[<- hq1] at hv2;have HG2:=Lib.hid (HG1.out.call HG1.out.size hg2);have HE2:=Lib.hid (HC2.out.still (Gr.grown hg2));have HV2:=Lib.hid hv2;obtain⟨y0,y1,y2,y3,y4⟩:=abV HE2.out;obtain⟨a8,n8,b8,rfl⟩:=hv2.parts;clear hv2 hg2 hq1;go_wp2_with fail
  obtain⟨s1,s2,s3⟩:=adP HV2.out HE2.out (by decide);exact agD rfl rfl rfl s1 ⟨_,rfl,s2,ab5 HG2.out (by omega) _ _⟩
 ·have hs:=ak7 h0;have HDQ:Hid (D=q.den):=by
   rcases HDD.out with h | ⟨h,_⟩;· exact h
   ·exact absurd h h0
  obtain⟨x0,x1,x2,x3⟩:=aie HC1.out;obtain⟨y0,y1,y2,y3,y4⟩:=abV HC2.out;clear h0;go_wp2_with fail
  obtain⟨s1,s2,s3⟩:=adP HD1.out HC2.out (by decide);rw[HDQ.out] at s2;exact agD rfl rfl rfl s1 ⟨_,rfl,s2,ab5 HG1.out (by omega) _ _⟩
end Go.Proofs.YtcmplpkmfbhpdaaGreat
namespace Go.Proofs.YtcmplpkmfbhpdaaGreat
open Go Go.RowKit
theorem ae0 {T:TypeId} {w0:World} {g:Nat} {c0 c1 c2 c3 x y z t:Value} {q:Rat} (hv:RIs w0 (.agg #[c0,c1,c2,c3]) q) (hB:aak T w0 g [x,y,z,t]) (hT:T≠213) :
  aak T ((((w0.setCell ⟨g,0,none⟩ c0).setCell ⟨g,1,none⟩ c1).setCell ⟨g,2,none⟩ c2).setCell ⟨g,3,none⟩ c3) g [c0,c1,c2,c3]/\RIs ((((w0.setCell ⟨g,0,none⟩ c0).setCell ⟨g,1,none⟩ c1).setCell ⟨g,2,none⟩ c2).setCell ⟨g,3,none⟩ c3) (.agg #[c0,c1,c2,c3]) q:=by
 have h1:=hB.set 0 c0;have h2:=h1.set 1 c1;have h3:=h2.set 2 c2;have hk:aaR w0 ((((w0.setCell ⟨g,0,none⟩ c0).setCell ⟨g,1,none⟩ c1).setCell ⟨g,2,none⟩ c2).setCell ⟨g,3,none⟩ c3):=(((aaL hB hT _).trans (aaL h1 hT _)).trans (aaL h2 hT _)).trans (aaL h3 hT _);exact⟨h3.set 3 c3,hv.keep hk⟩
theorem aln {w w0:World} {B g:Nat} (h:Own B w w0) (hg:B<=g) (c0 c1 c2 c3:Value):Own B w ((((w0.setCell ⟨g,0,none⟩ c0).setCell ⟨g,1,none⟩ c1).setCell ⟨g,2,none⟩ c2).setCell ⟨g,3,none⟩ c3):=(((h.set hg 0 c0).set hg 1 c1).set hg 2 c2).set hg 3 c3
theorem ahm {T:TypeId} {R:Ending->World->Prop} {a:Act} {w:World} {g:Nat} {x y z u:Value} {f:Func} {t:Tmp} (h:f.results= #[.cell t 39])
  (hp:a.tmps.getD t undef= .pointer (some ⟨g,0,none⟩)) (ha:a.defers=[]) (hB:aak T w g [x,y,z,u]) (hR:R (.returned (.agg #[x,y,z,u])) w):bodyPost Tryz.prog f R .ret a w:=
 afU h (by kernel_rfl) (by kernel_rfl) hp ha hB hR
theorem afA {T:TypeId} {w:World} {g:Nat} {x y z t:Value} (h:aak T w g [x,y,z,t]):w.frozen? ⟨g,0,none⟩=false/\w.frozen? ⟨g,1,none⟩=false/\w.frozen? ⟨g,2,none⟩=false/\w.frozen? ⟨g,3,none⟩=false/\g<w.heap.size:=
 ⟨h.free 0,h.free 1,h.free 2,h.free 3,h.lt⟩
section
variable (w:World) (a:Option Addr) (n:Nat) (b:Bool) (c:Option Addr) (m:Nat) (d:Bool)
abbrev zrW:World:=(w.alloc (.cells #[.slice a n n,.bool b] 37)).alloc (.cells #[.slice none 0 0,.bool false,.slice none 0 0,.bool false] 39)
theorem azu:aak 37 (zrW w a n b) w.heap.size [.slice a n n,.bool b]:=(aak.new _ w [.slice a n n,.bool b]).still (aab _ _ none)
theorem azt:aak 39 (zrW w a n b) (w.heap.size+1) [.slice none 0 0,.bool false,.slice none 0 0,.bool false]:=aaN (cs:=[.slice none 0 0,.bool false,.slice none 0 0,.bool false]) (by simp)
theorem azs:Own w.heap.size w (zrW w a n b):=(aap _ _).alloc (by simp) _
end
set_option maxHeartbeats 4000000 in
set_option maxRecDepth 100000 in
theorem aoJ (z:Int) (v:Value) (w:World) (hv:ZIs w v z) :
  Calls Tryz.prog 94 #[v] w λe w'=>∃ r,e= .returned r/\RIs w' r (z:Rat)/\Own w.heap.size w w':=by
 obtain⟨a,n,b,rfl⟩:=hv.parts;have HB1:=Lib.hid (azu w a n b);have HB2:Hid (aak 39 (zrW w a n b).drew (w.heap.size+1) [.slice none 0 0,.bool false,.slice none 0 0,.bool false]):=azt w a n b;have HG:Hid (Own w.heap.size w (zrW w a n b).drew):=(azs w a n b).drew;have HN1:=Lib.hid (Gr.zIs HG.out hv);obtain⟨x0,x1,x2,x3,x4⟩:=abV HB1.out;clear hv;go_enter Tryz.func94,Tryz.ntmps94
 go_wp2_with fail
 go_region_held3 (λw'=>w'.cell? ⟨w.heap.size,0,none⟩=some (.slice a n n)/\w'.cell? ⟨w.heap.size,1,none⟩=some (.bool b)) (first | go_keep | exact⟨aaw hg9 x0,aaw hg9 x1⟩ | (try dsimp only;repeat' apply And.intro;all_goals go_keep))
  (first | (go_at_call 58;refine (adr 1 _ (by omega) (by omega)).mono ?_;rintro e w9 ⟨v9,rfl,hv9,hg9⟩;have HV9:=Lib.hid hv9;have HG9:=Lib.hid (HG.out.call HG.out.size hg9);have HC9:=Lib.hid (HB2.out.still (Gr.grown hg9));have HN9:=Lib.hid (Gr.zIs hg9 HN1.out);obtain⟨y0,y1,y2,y3,y4⟩:=afA HC9.out;obtain⟨z0,z1,z2,z3⟩:=aie HC9.out;obtain⟨a8,n8,b8,rfl⟩:=hv9.parts;clear hv9))
 go_wp2_with fail
 obtain⟨s1,s2⟩:=ae0 (avX (q:=(z:Rat)) HN9.out HV9.out) HC9.out (by decide);exact ahm rfl rfl rfl s1 ⟨_,rfl,s2,aln HG9.out (by omega) _ _ _ _⟩
section
variable (w:World) (a:Option Addr) (n:Nat) (b:Bool) (c:Option Addr) (m:Nat) (d:Bool)
abbrev rrW:World:=(w.alloc (.cells #[.slice a n n,.bool b,.slice c m m,.bool d] 39)).alloc (.cells #[.slice none 0 0,.bool false,.slice none 0 0,.bool false] 39)
theorem azC:aak 39 (rrW w a n b c m d) w.heap.size [.slice a n n,.bool b,.slice c m m,.bool d]:=(aak.new _ w [.slice a n n,.bool b,.slice c m m,.bool d]).still (aab _ _ none)
theorem azB:aak 39 (rrW w a n b c m d) (w.heap.size+1) [.slice none 0 0,.bool false,.slice none 0 0,.bool false]:=aaN (cs:=[.slice none 0 0,.bool false,.slice none 0 0,.bool false]) (by simp)
theorem azA:Own w.heap.size w (rrW w a n b c m d):=(aap _ _).alloc (by simp) _
abbrev r1W:World:=w.alloc (.cells #[.slice a n n,.bool b,.slice c m m,.bool d] 39)
theorem azJ:aak 39 (r1W w a n b c m d) w.heap.size [.slice a n n,.bool b,.slice c m m,.bool d]:=aak.new _ w [.slice a n n,.bool b,.slice c m m,.bool d]
theorem azI:Own w.heap.size w (r1W w a n b c m d):=aap _ _
end
theorem azE {w:World} {a c:Option Addr} {n m:Nat} {b d:Bool} {q:Rat} {D:Int} (h1:ZIs w (.agg #[.slice a n n,.bool b]) q.num) (h2:ZIs w (.agg #[.slice c m m,.bool d]) D) (h3:D=q.den\/(D=0/\q.den=1)):RIs w (.agg #[.slice a n n,.bool b,.slice c m m,.bool d]) q:=by
 obtain⟨c1,e1,h1⟩:=h1;obtain⟨c2,e2,h2⟩:=h2;refine⟨c1++c2,?_,c1,c2,_,rfl,h1,h2,h3⟩;simp only[Value.agg.injEq] at e1 e2;have f1:=congrArg Array.toList e1;have f2:=congrArg Array.toList e2;simp only at f1 f2;rw[<- f1,<- f2];rfl
set_option maxHeartbeats 4000000 in
set_option maxRecDepth 100000 in
theorem apx (q:Rat) (v:Value) (w:World) (hv:RIs w v q) (hx:(limbs q.num.natAbs).length<=1000000) :
  Calls Tryz.prog 42 #[v] w λe w'=>e= .returned (Value.int .i64 (abT q.num))/\Own w.heap.size w w':=by
 obtain⟨a,n,b,c,m,d,rfl⟩:=hv.parts;obtain⟨hN,_⟩:=acl hv;have HB1:=Lib.hid (azJ w a n b c m d);have HG:=Lib.hid (azI w a n b c m d);have HN:=Lib.hid (Gr.zIs HG.out hN);have HX:=Lib.hid hx;obtain⟨x0,x1,x2,x3⟩:=aie HB1.out;clear hv hN hx;go_enter Tryz.func42,Tryz.ntmps42
 go_wp2_with fail
 refine (aej q.num _ _ HN.out HX.out).mono ?_;rintro e w1 ⟨rfl,hg1⟩;have HG1:=Lib.hid (HG.out.call HG.out.size hg1);clear hg1;go_wp2_with fail
 go_ret
 exact⟨rfl,HG1.out⟩
set_option maxHeartbeats 4000000 in
set_option maxRecDepth 100000 in
theorem alR (q:Rat) (v:Value) (w:World) (hv:RIs w v q) (hx:(limbs q.num.natAbs).length<=1000000) :
  Calls Tryz.prog 63 #[v] w λe w'=>∃ r,e= .returned r/\RIs w' r (-q)/\Own w.heap.size w w':=by
 obtain⟨a,n,b,c,m,d,rfl⟩:=hv.parts;obtain⟨hN,D,hD,hd⟩:=acl hv;have HB1:Hid (aak 39 (rrW w a n b c m d).drew w.heap.size [.slice a n n,.bool b,.slice c m m,.bool d]):=azC w a n b c m d;have HB2:Hid (aak 39 (rrW w a n b c m d).drew (w.heap.size+1) [.slice none 0 0,.bool false,.slice none 0 0,.bool false]):=azB w a n b c m d;have HG:Hid (Own w.heap.size w (rrW w a n b c m d).drew):=(azA w a n b c m d).drew;have HN:=Lib.hid (Gr.zIs HG.out hN);have HD:=Lib.hid (Gr.zIs HG.out hD);have HX:=Lib.hid hx;have HDD:=Lib.hid hd;obtain⟨x0,x1,x2,x3⟩:=aie HB1.out;have ne1:¬ w.heap.size=w.heap.size+1:=by omega
 have ne2:¬ w.heap.size+1=w.heap.size:=by omega
 clear hv hN hD hd hx;go_enter Tryz.func63,Tryz.ntmps63
 go_wp2_with fail
 go_region_held3 (λw'=>w'.cell? ⟨w.heap.size,0,none⟩=some (.slice a n n)/\w'.cell? ⟨w.heap.size,1,none⟩=some (.bool b)/\w'.cell? ⟨w.heap.size,2,none⟩=some (.slice c m m)/\w'.cell? ⟨w.heap.size,3,none⟩=some (.bool d)) (first | go_keep | exact⟨aaw hg9 x0,aaw hg9 x1,aaw hg9 x2,aaw hg9 x3⟩ | (try dsimp only;repeat' apply And.intro;all_goals go_keep))
  (first | (go_at_call 118;refine (afM q.num _ _ HN.out HX.out).mono ?_;rintro e w9 ⟨v9,rfl,hv9,hg9⟩;have HV9:=Lib.hid hv9;have HG9:=Lib.hid (HG.out.call HG.out.size hg9);have HC9:=Lib.hid (HB2.out.still (Gr.grown hg9));have HN9:=Lib.hid (Gr.zIs hg9 HD.out);obtain⟨y0,y1,y2,y3,y4⟩:=afA HC9.out;obtain⟨z0,z1,z2,z3⟩:=aie HC9.out;obtain⟨a8,n8,b8,rfl⟩:=hv9.parts;clear hv9))
 go_wp2_with fail
 obtain⟨s1,s2⟩:=ae0 (azE (q:= -q) HV9.out HN9.out HDD.out) HC9.out (by decide);exact ahm rfl rfl rfl s1 ⟨_,rfl,s2,aln HG9.out (by omega) _ _ _ _⟩
end Go.Proofs.YtcmplpkmfbhpdaaGreat
namespace Go.Proofs.YtcmplpkmfbhpdaaGreat
open Go Go.RowKit
inductive Pt where
 |any
 |is (v:Value)
 |n (k:Nat)
 |z (k:Int)
 |q (k:Rat)
 |p (K:World->Value->Prop) (h:∀ (w w':World) (v:Value),aaR w w'->K w v->K w' v)
def Pt.ok (w:World):Pt->Value->Prop
 | .any,_=>True
 | .is u,v=>v=u
 | .n k,v=>aaD w v k
 | .z k,v=>ZIs w v k
 | .q k,v=>RIs w v k
 | .p K _,v=>K w v
theorem Pt.ok.gr {w w':World} (g:Gr w w'):∀ {p:Pt} {v:Value},p.ok w v->p.ok w' v
 | .any,_,_=>trivial
 | .is _,_,h=>h
 | .n _,_,h=>Gr.natIs g h
 | .z _,_,h=>Gr.zIs g h
 | .q _,_,h=>RIs.keep h g.keep
 | .p _ hk,_,h=>hk _ _ _ g.keep h
theorem aag {P:Program} {o:Oper} {a:Act} {w w':World} {v:Value} {K:Value->World->Prop} (h:(execOp a.eval o).run P w= .ok (.value v) w') (k:K v w'):acF P o a w K:=by
 intro Q;unfold Oper.wp;rw[h,Oper.upon_value];exact⟨v,rfl,k⟩
theorem aat {P:Program} {o:Oper} {a:Act} {w w':World} {f:FuncId} {xs:Array Value} {K:Value->World->Prop} (h:(execOp a.eval o).run P w= .ok (.enter f xs) w') (k:Calls P f xs w' λe w''=>∃ v,e= .returned v/\K v w''):acF P o a w K:=by
 intro Q;unfold Oper.wp;rw[h,Oper.upon_enter];refine k.mono ?_;rintro e w'' ⟨v,rfl,hk⟩;exact⟨v,rfl,hk⟩
theorem amt {P:Program} {id:Nat} {ops:List Oper} {m:Nat} {a0:Act} {w0:World} {Q:Exit->Act->World->Prop} (hx:P.follows .mixedOrders=true) (hp:apT m ops=true) (hm:a0.tmps.size=m)
  (s:Nat->Pt)
  (hstep:∀ i o a w,ops[i]? =some o->Gr w0.drew w->
   (∀ j p d,ops[j]? =some p->(o.after.any λe=>Region.binds .any e && e.on == j)=true->p.dst=some d->(s j).ok w (a.tmps.getD d undef))->
   (∀ t,(∀ p∈ops,p.dst≠some t)->a.tmps.getD t undef=a0.tmps.getD t undef)->
   acF P o a w (λv w'=>Gr w w'/\(s i).ok w' v))
  (hend:∀ (vs:Nat->Value) w,Gr w0.drew w->(∀ j p d,ops[j]? =some p->p.dst=some d->(s j).ok w (vs d))->Q .normal (aaK ops vs a0) w) :
  (Code.region id ops.toArray true).wp P Q a0 w0:=by
 refine ams hx hp hm (λ_ w=>Gr w0.drew w) (λi v w=>(s i).ok w v) (λ_ _ _ _ h=>h) (Own.refl _ _) ?_ ?_
 ·intro i o f a w hi hW hf hdep hS hfr;intro Q';refine Oper.wp_mono ?_ (hstep i o a w hi hW (λj p d hp hj hd=>hS j p d hp (by
   rw[Array.any_eq_true'] at hj;obtain⟨e,he,hb⟩:=hj;simp only[Bool.and_eq_true,beq_iff_eq] at hb;rw[<- hb.2];exact hdep e he hb.1) hd) hfr Q')
  rintro a' w' ⟨v,rfl,hg,hv⟩;exact⟨v,rfl,λ_ _ h=>Pt.ok.gr hg h,hW.call hW.size hg,hv⟩
 ·intro vs w hW hS;exact hend vs w hW hS
theorem aib (x y:Nat):(limbs (x*y)).length<=(limbs x).length+(limbs y).length:=by
 have h1:=val_lt (limbs_limb x);have h2:=val_lt (limbs_limb y);rw[val_limbs] at h1 h2;rw[limbs_len,Nat.pow_add];exact Nat.mul_lt_mul'' h1 h2
theorem aaM (x y:Int):(limbs (x*y).natAbs).length<=(limbs x.natAbs).length+(limbs y.natAbs).length:=by
 rw[Int.natAbs_mul];exact aib _ _
end Go.Proofs.YtcmplpkmfbhpdaaGreat
namespace Go.Proofs.YtcmplpkmfbhpdaaGreat
open Go Go.RowKit
section
variable (w:World) (a:Option Addr) (n:Nat) (b:Bool) (c:Option Addr) (m:Nat) (d:Bool) (a':Option Addr) (n':Nat) (b':Bool) (c':Option Addr) (m':Nat) (d':Bool)
abbrev r2W:World:=(w.alloc (.cells #[.slice a n n,.bool b,.slice c m m,.bool d] 39)).alloc (.cells #[.slice a' n' n',.bool b',.slice c' m' m',.bool d'] 39)
theorem azH:aak 39 (r2W w a n b c m d a' n' b' c' m' d') w.heap.size [.slice a n n,.bool b,.slice c m m,.bool d]:=(aak.new _ w [.slice a n n,.bool b,.slice c m m,.bool d]).still (aab _ _ none)
theorem azG:aak 39 (r2W w a n b c m d a' n' b' c' m' d') (w.heap.size+1) [.slice a' n' n',.bool b',.slice c' m' m',.bool d']:=aaN (cs:=[.slice a' n' n',.bool b',.slice c' m' m',.bool d']) (by simp)
theorem azF:Own w.heap.size w (r2W w a n b c m d a' n' b' c' m' d'):=(aap _ _).alloc (by simp) _
end
set_option maxHeartbeats 4000000 in
set_option maxRecDepth 100000 in
theorem arD (q p:Rat) (v u:Value) (w:World) (hv:RIs w v q) (hu:RIs w u p) (hq:(limbs q.num.natAbs).length+(limbs q.den).length<=400000) (hp:(limbs p.num.natAbs).length+(limbs p.den).length<=400000) :
  Calls Tryz.prog 47 #[v,u] w λe w'=>e= .returned (Value.int .i64 (abg q p))/\Own w.heap.size w w':=by
 obtain⟨a,n,b,c,m,d,rfl⟩:=hv.parts;obtain⟨a',n',b',c',m',d',rfl⟩:=hu.parts;have HB1:Hid (aak 39 (r2W w a n b c m d a' n' b' c' m' d').drew w.heap.size [.slice a n n,.bool b,.slice c m m,.bool d]):=azH w a n b c m d a' n' b' c' m' d';have HB2:Hid (aak 39 (r2W w a n b c m d a' n' b' c' m' d').drew (w.heap.size+1) [.slice a' n' n',.bool b',.slice c' m' m',.bool d']):=azG w a n b c m d a' n' b' c' m' d';have HG:Hid (Own w.heap.size w (r2W w a n b c m d a' n' b' c' m' d').drew):=(azF w a n b c m d a' n' b' c' m' d').drew;have HV:=Lib.hid (RIs.keep hv (Gr.keep HG.out));have HU:=Lib.hid (RIs.keep hu (Gr.keep HG.out));have HQ:=Lib.hid hq;have HP:=Lib.hid hp;clear hv hu hq hp;go_enter Tryz.func47,Tryz.ntmps47
 go_wp2_with fail
 refine amt (s:=fun
  |0=> .is (.pointer (some ⟨w.heap.size,0,none⟩)) | 1=> .z q.num | 2=> .q p | 3=> .z p.den | 4=> .z (q.num*p.den)
  |5=> .is (.pointer (some ⟨w.heap.size+1,0,none⟩)) | 6=> .z p.num | 7=> .q q | 8=> .z q.den | 9=> .z (p.num*q.den)
  |10=> .is (.int .i64 (abg q p)) | _=> .is (.int .i64 (abg q p))) (by kernel_rfl) (by kernel_rfl) rfl ?_ ?_
 ·intro i o A W hi hg hdep hfr;rcases i with _ | _ | _ | _ | _ | _ | _ | _ | _ | _ | _ | _ | i
  all_goals (simp at hi)
  all_goals (try subst hi)
  ·have t2:=hfr 2 (by simp);refine aag (v:= .pointer (some ⟨w.heap.size,0,none⟩)) (w':=W) ?_ ⟨Own.refl _ _,rfl⟩;simp[go_sem,Act.eval,t2]
  ·have t5:A.tmps.getD 5 undef= .pointer (some ⟨w.heap.size,0,none⟩):=hdep 0 _ 5 rfl (by kernel_rfl) rfl;obtain⟨x0,x1,x2,x3⟩:=aie (HB1.out.still (Gr.grown hg));refine aag (v:= .agg #[.slice a n n,.bool b]) (w':=W) ?_ ⟨Own.refl _ _,Gr.zIs hg (acl HV.out).1⟩;simp[go_sem,Act.eval,t5,x0,x1]
  ·have t3:=hfr 3 (by simp);obtain⟨x0,x1,x2,x3⟩:=aie (HB2.out.still (Gr.grown hg));refine aag (v:= .agg #[.slice a' n' n',.bool b',.slice c' m' m',.bool d']) (w':=W) ?_ ⟨Own.refl _ _,HU.out.keep (Gr.keep hg)⟩;simp[go_sem,Act.eval,t3,x0,x1,x2,x3]
  ·have t7:RIs W (A.tmps.getD 7 undef) p:=hdep 2 _ 7 rfl (by kernel_rfl) rfl;refine aat (w':=W) (f:=61) (xs:= #[A.tmps.getD 7 undef]) (by simp[go_sem,Act.eval]) ?_;refine (acm p _ _ t7 (by have:=HP.out;omega)).mono ?_;rintro e w1 ⟨r,rfl,hr,hg1⟩;exact⟨r,rfl,hg1,hr⟩
  ·have t6:ZIs W (A.tmps.getD 6 undef) q.num:=hdep 1 _ 6 rfl (by kernel_rfl) rfl;have t8:ZIs W (A.tmps.getD 8 undef) p.den:=hdep 3 _ 8 rfl (by kernel_rfl) rfl;refine aat (w':=W) (f:=60) (xs:= #[A.tmps.getD 6 undef,A.tmps.getD 8 undef]) (by simp[go_sem,Act.eval]) ?_;refine (acd _ _ _ _ _ t6 t8 (by have:=HQ.out;omega) (by have:=HP.out;rw[Int.natAbs_natCast];omega)).mono ?_;rintro e w1 ⟨r,rfl,hr,hg1⟩;exact⟨r,rfl,hg1,hr⟩
  ·have t3:=hfr 3 (by simp);refine aag (v:= .pointer (some ⟨w.heap.size+1,0,none⟩)) (w':=W) ?_ ⟨Own.refl _ _,rfl⟩;simp[go_sem,Act.eval,t3]
  ·have t10:A.tmps.getD 10 undef= .pointer (some ⟨w.heap.size+1,0,none⟩):=hdep 5 _ 10 rfl (by kernel_rfl) rfl;obtain⟨x0,x1,x2,x3⟩:=aie (HB2.out.still (Gr.grown hg));refine aag (v:= .agg #[.slice a' n' n',.bool b']) (w':=W) ?_ ⟨Own.refl _ _,Gr.zIs hg (acl HU.out).1⟩;simp[go_sem,Act.eval,t10,x0,x1]
  ·have t2:=hfr 2 (by simp);obtain⟨x0,x1,x2,x3⟩:=aie (HB1.out.still (Gr.grown hg));refine aag (v:= .agg #[.slice a n n,.bool b,.slice c m m,.bool d]) (w':=W) ?_ ⟨Own.refl _ _,HV.out.keep (Gr.keep hg)⟩;simp[go_sem,Act.eval,t2,x0,x1,x2,x3]
  ·have t12:RIs W (A.tmps.getD 12 undef) q:=hdep 7 _ 12 rfl (by kernel_rfl) rfl;refine aat (w':=W) (f:=61) (xs:= #[A.tmps.getD 12 undef]) (by simp[go_sem,Act.eval]) ?_;refine (acm q _ _ t12 (by have:=HQ.out;omega)).mono ?_;rintro e w1 ⟨r,rfl,hr,hg1⟩;exact⟨r,rfl,hg1,hr⟩
  ·have t11:ZIs W (A.tmps.getD 11 undef) p.num:=hdep 6 _ 11 rfl (by kernel_rfl) rfl;have t13:ZIs W (A.tmps.getD 13 undef) q.den:=hdep 8 _ 13 rfl (by kernel_rfl) rfl;refine aat (w':=W) (f:=60) (xs:= #[A.tmps.getD 11 undef,A.tmps.getD 13 undef]) (by simp[go_sem,Act.eval]) ?_;refine (acd _ _ _ _ _ t11 t13 (by have:=HP.out;omega) (by have:=HQ.out;rw[Int.natAbs_natCast];omega)).mono ?_;rintro e w1 ⟨r,rfl,hr,hg1⟩;exact⟨r,rfl,hg1,hr⟩
  ·have t9:ZIs W (A.tmps.getD 9 undef) (q.num*p.den):=hdep 4 _ 9 rfl (by kernel_rfl) rfl;have t14:ZIs W (A.tmps.getD 14 undef) (p.num*q.den):=hdep 9 _ 14 rfl (by kernel_rfl) rfl;refine aat (w':=W) (f:=104) (xs:= #[A.tmps.getD 9 undef,A.tmps.getD 14 undef]) (by simp[go_sem,Act.eval]) ?_;have l1:=aaM q.num p.den;have l2:=aaM p.num q.den;rw[Int.natAbs_natCast] at l1 l2;have:=HP.out;have:=HQ.out;refine (ak2 _ _ _ _ _ t9 t14 (by omega) (by omega)).mono ?_;rintro e w1 ⟨rfl,hg1⟩;exact⟨_,rfl,hg1,by rw[arN];rfl⟩
  ·have t15:A.tmps.getD 15 undef= .int .i64 (abg q p):=hdep 10 _ 15 rfl (by kernel_rfl) rfl;refine aag (v:= .int .i64 (abg q p)) (w':=W) ?_ ⟨Own.refl _ _,rfl⟩;simp[go_sem,Act.eval,t15]
 ·intro vs W hg hs;have t4:vs 4= .int .i64 (abg q p):=hs 11 _ 4 rfl rfl;have hgo:=HG.out.call HG.out.size hg;simp only[aaK,List.foldl_cons,List.foldl_nil,Act.put,List.setIfInBounds_toArray,List.set_cons_succ,List.set_cons_zero,t4];go_wp2_with fail
  go_ret
  exact⟨rfl,hgo⟩
end Go.Proofs.YtcmplpkmfbhpdaaGreat
namespace Go.Proofs.YtcmplpkmfbhpdaaGreat
open Go Go.RowKit
def PJ2 (ops:List Oper) (W:(Nat->Bool)->Act->World->Prop) (S:Nat->Value->World->Prop) (a0:Act) (listed:Array Bool) (a:Act) (w:World):Prop:=
 listed.size=ops.length/\W (λj=>listed.getD j false) a w/\a.defers=a0.defers/\a.tmps.size=a0.tmps.size/\
  (∀ t,(∀ j o,ops[j]? =some o->listed.getD j false=true->o.dst≠some t)->a.tmps[t]? =a0.tmps[t]?)/\
  (∀ j o d,ops[j]? =some o->listed.getD j false=true->o.dst=some d->S j (a.tmps.getD d undef) w)/\
  (∀ j o,ops[j]? =some o->listed.getD j false=true->∀ e∈o.after,Region.binds .any e=true->listed.getD e.on false=true)
theorem aqV {P:Program} {ops:List Oper} {m:Nat} {a0:Act} {Q:Exit->Act->World->Prop} (hp:apT m ops=true) (hm:a0.tmps.size=m)
  (W:(Nat->Bool)->Act->World->Prop) (S:Nat->Value->World->Prop)
  (hW:∀ f g a w,(∀ j,j<ops.length->f j=g j)->W f a w->W g a w)
  (hstep:∀ i o f a w,ops[i]? =some o->W f a w->f i=false->(∀ e∈o.after,Region.binds .any e=true->f e.on=true)->
   (∀ j p d,ops[j]? =some p->f j=true->p.dst=some d->S j (a.tmps.getD d undef) w)->
   (∀ j p,ops[j]? =some p->f j=true->∀ e∈p.after,Region.binds .any e=true->f e.on=true)->
   (∀ t,(∀ p∈ops,p.dst≠some t)->a.tmps.getD t undef=a0.tmps.getD t undef)->
   a.tmps.size=a0.tmps.size->
   acF P o a w (λv w'=>(∀ j u,S j u w->S j u w')/\W (upd f i) (a.put o.dst v) w'/\S i v w'))
  (hend:∀ (vs:Nat->Value) w,W (λ_=>true) (aaK ops vs a0) w->(∀ j p d,ops[j]? =some p->p.dst=some d->S j (vs d) w)->Q .normal (aaK ops vs a0) w) :
  ∀ (fuel:Nat) (listed:Array Bool) (a:Act) (w:World),listed.toList.count false<=fuel->PJ2 ops W S a0 listed a w->wpAny P .any ops.toArray Q fuel listed a w:=by
 have fin:∀ listed a w,PJ2 ops W S a0 listed a w->Region.ready .any ops.toArray listed=[]->Q .normal a w:=by
  intro listed a w ⟨j1,j2,j3,j4,j5,j6,j7⟩ hr;have hall:=aiH hp j1 hr;have e:a=aaK ops (λt=>a.tmps.getD t undef) a0:=by
   obtain⟨p1,p2,p3⟩:=aja (λt=>a.tmps.getD t undef) ops a0;have et:a.tmps=(aaK ops (λt=>a.tmps.getD t undef) a0).tmps:=by
    apply Array.ext_getElem?;intro t;rw[p3 t];by_cases hc:(∃ o∈ops,o.dst=some t)/\t<a0.tmps.size
    ·rw[if_pos hc];have:t<a.tmps.size:=by rw[j4];exact hc.2
     simp[Array.getD_eq_getD_getElem?,Array.getElem?_eq_getElem this]
    ·rw[if_neg hc];by_cases ht:t<a0.tmps.size
     ·exact j5 t (λj o ho _ hd=>hc ⟨⟨o,List.mem_of_getElem? ho,hd⟩,ht⟩)
     ·rw[Array.getElem?_eq_none (by omega),Array.getElem?_eq_none (by omega)]
   calc a=⟨a.tmps,a.defers⟩:=rfl
    _=⟨(aaK ops (λt=>a.tmps.getD t undef) a0).tmps,(aaK ops (λt=>a.tmps.getD t undef) a0).defers⟩:=by rw[<- et,p1,j3]
    _=_:=rfl
  have j2':=hW _ (λ_=>true) a w (λj hj=>hall j hj) j2;rw[e] at j2' ⊢;refine hend _ w j2' (λj p d hj hd=> ?_);have hjl:j<ops.length:=(List.getElem?_eq_some_iff.1 hj).1;exact j6 j p d hj (hall j hjl) hd
 intro fuel;induction fuel with
 |zero=>
  intro listed a w hc hJ;have hr:Region.ready .any ops.toArray listed=[]:=by
   apply List.eq_nil_iff_forall_not_mem.2;intro i hi;have h1:=(acP hi).1;have:=count_set h1;omega
  exact⟨hr,fin _ _ _ hJ hr⟩
 |succ fuel ih=>
  intro listed a w hc hJ;refine⟨fin _ _ _ hJ,λi hi=> ?_⟩;obtain⟨h1,o,ho,hdep⟩:=acP hi;obtain⟨j1,j2,j3,j4,j5,j6,j7⟩:=hJ;obtain⟨hg,_,hdst⟩:=ahM hp ho;have hil:i<listed.size:=by rw[j1];exact (List.getElem?_eq_some_iff.1 ho).1
  have hf:listed.getD i false=false:=by
   simp only[Array.getD_eq_getD_getElem?,Array.getElem?_eq_getElem hil,Option.getD_some] at h1 ⊢;exact h1
  have hfr:∀ t,(∀ p∈ops,p.dst≠some t)->a.tmps.getD t undef=a0.tmps.getD t undef:=λt ht=>by
   simp only[Array.getD_eq_getD_getElem?,j5 t (λj o ho _=>ht o (List.mem_of_getElem? ho))]
  have hok:=hstep i o _ a w ho j2 hf hdep j6 j7 hfr j4;unfold wpOp;have ho2:ops.toArray[i]? =some o:=by simpa using ho
  simp only[ho2];have hw:Region.wanted o (yielded ops.toArray a.tmps)=true:=by simp[Region.wanted,hg]
  rw[if_pos hw];refine .inl (adI hok ?_);intro v w' ⟨hmono,hW',hS'⟩;have hget:∀ j,(listed.setIfInBounds i true).getD j false=upd (λj=>listed.getD j false) i j:=λj=>by
   unfold upd;simp only[Array.getD_eq_getD_getElem?,Array.getElem?_setIfInBounds];by_cases hij:i=j
   ·subst hij;simp[hil]
   ·rw[if_neg hij,if_neg (Ne.symm hij)]
  refine ih _ _ _ (by have:=count_set h1;omega) ⟨by simp[j1],?_,?_,?_,?_,?_,?_⟩
  ·exact hW _ _ _ w' (λj _=>(hget j).symm) hW'
  ·cases hd:o.dst<;>simp[Act.put,j3]
  ·cases hd:o.dst<;>simp[Act.put,j4]
  ·intro t ht;cases hd:o.dst with
   |none=>exact j5 t (λj p hj hl=>ht j p hj (by rw[hget];unfold upd;split<;>first | rfl | exact hl))
   |some d=>
    have hne:d≠t:=by
     rintro rfl;exact ht i o ho (by rw[hget];simp[upd]) hd
    simp only[Act.put,Array.getElem?_setIfInBounds,if_neg hne];exact j5 t (λj p hj hl=>ht j p hj (by rw[hget];unfold upd;split<;>first | rfl | exact hl))
  ·intro j p d hj hl hd;by_cases hij:j=i
   ·subst hij;rw[ho] at hj;cases hj;have hdm:=(hdst d hd).1;simp only[hd,Act.put,Array.getD_eq_getD_getElem?,Array.getElem?_setIfInBounds,if_pos,j4,hm,hdm,Option.getD_some];exact hS'
   ·have hl2:listed.getD j false=true:=by rw[hget] at hl;unfold upd at hl;rwa [if_neg hij] at hl
    have h3:=hmono _ _ (j6 j p d hj hl2 hd);cases hd2:o.dst with
    |none=>exact h3
    |some d2=>
     have hne:d2≠d:=by
      rintro rfl;exact hij ((hdst d2 hd2).2 j p hj hd)
     simp only[Act.put,Array.getD_eq_getD_getElem?,Array.getElem?_setIfInBounds,if_neg hne];simpa[Array.getD_eq_getD_getElem?] using h3
  ·intro j p hj hl e he hb;rw[hget];unfold upd;split
   ·rfl
   ·by_cases hij:j=i
    ·subst hij;rw[ho] at hj;cases hj;exact hdep e he hb
    ·have hl2:listed.getD j false=true:=by rw[hget] at hl;unfold upd at hl;rwa [if_neg hij] at hl
     exact j7 j p hj hl2 e he hb
theorem agX {P:Program} {id:Nat} {ops:List Oper} {m:Nat} {a0:Act} {w0:World} {Q:Exit->Act->World->Prop} (hx:P.follows .mixedOrders=true) (hp:apT m ops=true) (hm:a0.tmps.size=m)
  (W:(Nat->Bool)->Act->World->Prop) (S:Nat->Value->World->Prop)
  (hW:∀ f g a w,(∀ j,j<ops.length->f j=g j)->W f a w->W g a w) (h0:W (λ_=>false) a0 w0.drew)
  (hstep:∀ i o f a w,ops[i]? =some o->W f a w->f i=false->(∀ e∈o.after,Region.binds .any e=true->f e.on=true)->
   (∀ j p d,ops[j]? =some p->f j=true->p.dst=some d->S j (a.tmps.getD d undef) w)->
   (∀ j p,ops[j]? =some p->f j=true->∀ e∈p.after,Region.binds .any e=true->f e.on=true)->
   (∀ t,(∀ p∈ops,p.dst≠some t)->a.tmps.getD t undef=a0.tmps.getD t undef)->
   a.tmps.size=a0.tmps.size->
   acF P o a w (λv w'=>(∀ j u,S j u w->S j u w')/\W (upd f i) (a.put o.dst v) w'/\S i v w'))
  (hend:∀ (vs:Nat->Value) w,W (λ_=>true) (aaK ops vs a0) w->(∀ j p d,ops[j]? =some p->p.dst=some d->S j (vs d) w)->Q .normal (aaK ops vs a0) w) :
  (Code.region id ops.toArray true).wp P Q a0 w0:=by
 refine wp_region_any hx ?_;refine aqV hp hm W S hW hstep hend _ _ _ _ (by simp) ⟨by simp,?_,rfl,rfl,λ_ _=>rfl,?_,?_⟩
 ·refine hW _ _ _ _ (λj hj=> ?_) h0;simp[Array.getD_eq_getD_getElem?,hj]
 ·intro j o d hj hl;have hjl:j<ops.length:=(List.getElem?_eq_some_iff.1 hj).1;simp[Array.getD_eq_getD_getElem?,hjl] at hl
 ·intro j o hj hl;have hjl:j<ops.length:=(List.getElem?_eq_some_iff.1 hj).1;simp[Array.getD_eq_getD_getElem?,hjl] at hl
end Go.Proofs.YtcmplpkmfbhpdaaGreat
namespace Go.Proofs.YtcmplpkmfbhpdaaGreat
open Go Go.RowKit
theorem Pt.ok.keep {w w':World} (k:aaR w w'):∀ {p:Pt} {v:Value},p.ok w v->p.ok w' v
 | .any,_,_=>trivial
 | .is _,_,h=>h
 | .n _,_,h=>aaD.keep h k
 | .z _,_,h=>ZIs.keep h k
 | .q _,_,h=>RIs.keep h k
 | .p _ hk,_,h=>hk _ _ _ k h
theorem abq {P:Program} {id:Nat} {ops:List Oper} {m:Nat} {a0:Act} {w0:World} {Q:Exit->Act->World->Prop} (hx:P.follows .mixedOrders=true) (hp:apT m ops=true) (hm:a0.tmps.size=m)
  (s:Nat->Pt) (J:(Nat->Bool)->Act->World->Prop) (hJ:∀ f g a w,(∀ j,j<ops.length->f j=g j)->J f a w->J g a w) (h0:J (λ_=>false) a0 w0.drew)
  (hstep:∀ i o f a w,ops[i]? =some o->J f a w->f i=false->
   (∀ j p d,ops[j]? =some p->(o.after.any λe=>Region.binds .any e && e.on == j)=true->p.dst=some d->(s j).ok w (a.tmps.getD d undef))->
   (∀ j,(o.after.any λe=>Region.binds .any e && e.on == j)=true->f j=true)->
   (∀ k p j,ops[k]? =some p->f k=true->(p.after.any λe=>Region.binds .any e && e.on == j)=true->f j=true)->
   (∀ t,(∀ p∈ops,p.dst≠some t)->a.tmps.getD t undef=a0.tmps.getD t undef)->
   a.tmps.size=a0.tmps.size->
   acF P o a w (λv w'=>aaR w w'/\J (upd f i) (a.put o.dst v) w'/\(s i).ok w' v))
  (hend:∀ (vs:Nat->Value) w,J (λ_=>true) (aaK ops vs a0) w->(∀ j p d,ops[j]? =some p->p.dst=some d->(s j).ok w (vs d))->Q .normal (aaK ops vs a0) w) :
  (Code.region id ops.toArray true).wp P Q a0 w0:=by
 refine agX hx hp hm J (λi v w=>(s i).ok w v) hJ h0 ?_ hend;intro i o f a w hi hW hf hdep hS hcl hfr hsz;have hany:∀ (p:Oper) j,(∀ e∈p.after,Region.binds .any e=true->f e.on=true)->(p.after.any λe=>Region.binds .any e && e.on == j)=true->f j=true:=by
  intro p j h hj;rw[Array.any_eq_true'] at hj;obtain⟨e,he,hb⟩:=hj;simp only[Bool.and_eq_true,beq_iff_eq] at hb;rw[<- hb.2];exact h e he hb.1
 intro Q';refine Oper.wp_mono ?_ (hstep i o f a w hi hW hf (λj p d hp hj hd=>hS j p d hp (hany o j hdep hj) hd) (λj hj=>hany o j hdep hj) (λk p j hk hfk hj=>hany p j (hcl k p hk hfk) hj) hfr hsz Q');rintro a' w' ⟨v,rfl,hk,hj,hv⟩;exact⟨v,rfl,λ_ _ h=>Pt.ok.keep hk h,hj,hv⟩
section
variable {B:Nat} {w0:World} {bx:List (TypeId × Nat × List Value)} {T:TypeId} {g i:Nat} {q:Rat} {f:Nat->Bool} {w:World}
end
end Go.Proofs.YtcmplpkmfbhpdaaGreat
namespace Go.Proofs.YtcmplpkmfbhpdaaGreat
open Go Go.RowKit
structure Tg where
 d:Nat
 ia:Option Nat
 st:Nat
 T:TypeId
 K:Bool->World->List Value->Prop
 kk:∀ (c:Bool) (w w':World) (cs:List Value),aaR w w'->K c w cs->K c w' cs
def Tg.there (t:Tg) (f:Nat->Bool):Prop:=∀ i,t.ia=some i->f i=true
structure MM (B:Nat) (w0 wk:World) (bx:List (TypeId × Nat × List Value)) (tg:List Tg) (f:Nat->Bool) (a:Act) (w:World):Prop where
 b:Below B w0 w
 k:aaR wk w
 hs:B<=w.heap.size
 kept:∀ x:TypeId × Nat × List Value,x∈bx->aak x.1 w x.2.1 x.2.2
 at':∀ t:Tg,t∈tg->t.there f->∃ g cs,a.tmps.getD t.d undef= .pointer (some ⟨g,0,none⟩)/\B<=g/\aak t.T w g cs/\t.K (f t.st) w cs/\∀ x:TypeId × Nat × List Value,x∈bx->x.2.1≠g
 ne:∀ t u:Tg,t∈tg->u∈tg->t.d≠u.d->t.there f->u.there f->a.tmps.getD t.d undef≠a.tmps.getD u.d undef
section
variable {B:Nat} {w0 wk:World} {bx:List (TypeId × Nat × List Value)} {tg:List Tg} {f:Nat->Bool} {a:Act} {w:World}
theorem abS {o:Option Nat} {d:Nat} (v:Value) (h:o≠some d):(a.put o v).tmps.getD d undef=a.tmps.getD d undef:=by
 cases o with
 |none=>rfl
 |some x=>
  have hx:x≠d:=λe=>h (by rw[e]);simp only[Act.put,Array.getD_eq_getD_getElem?,Array.getElem?_setIfInBounds,if_neg hx]
theorem ahK {d:Nat} (v:Value) (h:d<a.tmps.size):(a.put (some d) v).tmps.getD d undef=v:=by
 simp[Act.put,Array.getD_eq_getD_getElem?,h]
theorem abR {t:Tg} {i:Nat} (h:t.ia≠some i):t.there (upd f i)↔t.there f:=by
 unfold Tg.there upd;constructor
 ·intro g j hj;have:=g j hj;rwa [if_neg (by rintro rfl;exact h hj)] at this
 ·intro g j hj;rw[if_neg (by rintro rfl;exact h hj)];exact g j hj
theorem MM.ext {g:Nat->Bool} {n:Nat} (hn:∀ t,t∈tg->t.st<n/\∀ i,t.ia=some i->i<n) (e:∀ j,j<n->f j=g j) (h:MM B w0 wk bx tg f a w):MM B w0 wk bx tg g a w:=by
 have ht:∀ t,t∈tg->(t.there g↔t.there f):=λt ht=>by
  unfold Tg.there;constructor
  ·intro k i hi;rw[e i ((hn t ht).2 i hi)];exact k i hi
  ·intro k i hi;rw[<- e i ((hn t ht).2 i hi)];exact k i hi
 refine⟨h.b,h.k,h.hs,h.kept,λt hm hth=> ?_,λt u h1 h2 hd c1 c2=>h.ne t u h1 h2 hd ((ht t h1).1 c1) ((ht u h2).1 c2)⟩;rw[<- e t.st (hn t hm).1];exact h.at' t hm ((ht t hm).1 hth)
theorem MM.gr (h:MM B w0 wk bx tg f a w) {w':World} (hb:Below w.heap.size w w') (i:Nat) (o:Option Nat) (v:Value)
  (hc:∀ t,t∈tg->o≠some t.d/\t.ia≠some i/\t.st≠i):MM B w0 wk bx tg (upd f i) (a.put o v) w':=by
 have hg:=aar hb none;refine⟨h.b.trans (hb.mono h.hs),h.k.trans (aaC hg),Nat.le_trans h.hs hb.size,λx hx=>(h.kept x hx).still hg,λt hm hth=> ?_,λt u h1 h2 hd c1 c2=> ?_⟩
 ·obtain⟨c1,c2,c3⟩:=hc t hm;obtain⟨g,cs,k1,k2,k3,k4,k5⟩:=h.at' t hm ((abR c2).1 hth);refine⟨g,cs,by rw[abS v c1];exact k1,k2,k3.still hg,?_,k5⟩;have e:upd f i t.st=f t.st:=by unfold upd;rw[if_neg c3]
  rw[e];exact t.kk _ _ _ _ (aaC hg) k4
 ·obtain⟨d1,d2,d3⟩:=hc t h1;obtain⟨e1,e2,e3⟩:=hc u h2;rw[abS v d1,abS v e1];exact h.ne t u h1 h2 hd ((abR d2).1 c1) ((abR e2).1 c2)
theorem MM.same (h:MM B w0 wk bx tg f a w) (i:Nat) (o:Option Nat) (v:Value)
  (hc:∀ t,t∈tg->o≠some t.d/\t.ia≠some i/\t.st≠i):MM B w0 wk bx tg (upd f i) (a.put o v) w:=
 h.gr (Below.refl _ _) i o v hc
theorem MM.new (h:MM B w0 wk bx tg f a w) {t0:Tg} {cs:List Value} (i:Nat) (hm0:t0∈tg) (hi:t0.ia=some i) (hsz:t0.d<a.tmps.size) (hst:f t0.st=false) (hne:t0.st≠i)
  (hc:∀ t,t∈tg->t=t0\/(t0.d≠t.d/\t.ia≠some i/\t.st≠i)) (hk0:t0.K false (w.alloc (.cells cs.toArray t0.T)) cs) :
  MM B w0 wk bx tg (upd f i) (a.put (some t0.d) (.pointer (some ⟨w.heap.size,0,none⟩))) (w.alloc (.cells cs.toArray t0.T)):=by
 have hb:Below w.heap.size w (w.alloc (.cells cs.toArray t0.T)):=(Below.refl _ _).alloc (Nat.le_refl _) _;have hg:=aar hb none;have old:∀ t,t∈tg->t≠t0->t.there (upd f i)->∃ g cs',(a.put (some t0.d) (.pointer (some ⟨w.heap.size,0,none⟩))).tmps.getD t.d undef= .pointer (some ⟨g,0,none⟩)/\g<w.heap.size/\B<=g/\aak t.T (w.alloc (.cells cs.toArray t0.T)) g cs'/\t.K (upd f i t.st) (w.alloc (.cells cs.toArray t0.T)) cs'/\∀ x:TypeId × Nat × List Value,x∈bx->x.2.1≠g:=λt hm hne' hth=>by
  obtain⟨c1,c2,c3⟩:=(hc t hm).resolve_left hne';obtain⟨g,cs',k1,k2,k3,k4,k5⟩:=h.at' t hm ((abR c2).1 hth);refine⟨g,cs',by rw[abS _ (by simpa using c1)];exact k1,k3.lt,k2,k3.still hg,?_,k5⟩;have e:upd f i t.st=f t.st:=by unfold upd;rw[if_neg c3]
  rw[e];exact t.kk _ _ _ _ (aaC hg) k4
 refine⟨h.b.trans (hb.mono h.hs),h.k.trans (aaC hg),Nat.le_trans h.hs hb.size,λx hx=>(h.kept x hx).still hg,λt hm hth=> ?_,λt u h1 h2 hd c1 c2=> ?_⟩
 ·rcases Classical.em (t=t0) with rfl | hn
  ·refine⟨w.heap.size,cs,ahK _ hsz,h.hs,aak.new _ _ _,?_,λx hx=>Nat.ne_of_lt (h.kept x hx).lt⟩;have e:upd f i t.st=false:=by unfold upd;rw[if_neg hne];exact hst
   rw[e];exact hk0
  ·obtain⟨g,cs',k1,_,k2,k3,k4,k5⟩:=old t hm hn hth;exact⟨g,cs',k1,k2,k3,k4,k5⟩
 ·rcases Classical.em (t=t0) with e1 | n1<;>rcases Classical.em (u=t0) with e2 | n2
  ·exact absurd (e1.trans e2.symm ▸ rfl) hd
  ·subst e1;obtain⟨g,cs',k1,k2,_⟩:=old u h2 n2 c2;rw[ahK _ hsz,k1];intro e;injection e with e
   injection e with e
   injection e with e
   omega
  ·subst e2;obtain⟨g,cs',k1,k2,_⟩:=old t h1 n1 c1;rw[ahK _ hsz,k1];intro e;injection e with e
   injection e with e
   injection e with e
   omega
  ·obtain⟨d1,d2,d3⟩:=(hc t h1).resolve_left n1;obtain⟨e1,e2,e3⟩:=(hc u h2).resolve_left n2;rw[abS _ (by simpa using d1),abS _ (by simpa using e1)];exact h.ne t u h1 h2 hd ((abR d2).1 c1) ((abR e2).1 c2)
theorem MM.ahead (h:MM B w0 wk bx tg f a w) {t0:Tg} (hm0:t0∈tg) (hth:t0.there f) (hf:f t0.st=false):∃ g cs,a.tmps.getD t0.d undef= .pointer (some ⟨g,0,none⟩)/\aak t0.T w g cs/\t0.K false w cs:=by
 obtain⟨g,cs,k1,k2,k3,k4,k5⟩:=h.at' t0 hm0 hth;rw[hf] at k4;exact⟨g,cs,k1,k3,k4⟩
theorem MM.put (h:MM B w0 wk bx tg f a w) {t0:Tg} {w':World} {g:Nat} {cs:List Value} (i:Nat) (v:Value) (hm0:t0∈tg) (hth:t0.there f) (hi:t0.st=i) (hp:a.tmps.getD t0.d undef= .pointer (some ⟨g,0,none⟩))
  (hgr:w.grownBy w' (some g)) (hk:aaR w w') (hB:aak t0.T w' g cs) (hK1:t0.K true w' cs)
  (hc:∀ t,t∈tg->t=t0\/(t.d≠t0.d/\t.st≠i)) (hia:∀ t,t∈tg->t.ia≠some i):MM B w0 wk bx tg (upd f i) (a.put none v) w':=by
 obtain⟨g0,cs0,k1,k2,k3,k4,k5⟩:=h.at' t0 hm0 hth;have eg:g0=g:=by
  rw[hp] at k1;injection k1 with e
  injection e with e
  injection e with e
  exact e.symm
 subst eg;refine⟨h.b.grown hgr h.hs (λq hq=>by cases hq;exact k2),h.k.trans hk,Nat.le_trans h.hs hgr.size,λx hx=>(h.kept x hx).grown hgr (λe=>k5 x hx (Option.some.inj e)),λt hm ht=> ?_,λt u h1 h2 hd c1 c2=>h.ne t u h1 h2 hd ((abR (hia t h1)).1 c1) ((abR (hia u h2)).1 c2)⟩;rcases Classical.em (t=t0) with rfl | hn
 ·refine⟨g0,cs,hp,k2,hB,?_,k5⟩;have e:upd f i t.st=true:=by unfold upd;rw[if_pos hi]
  rw[e];exact hK1
 ·obtain⟨c1,c2⟩:=(hc t hm).resolve_left hn;have ht':=(abR (hia t hm)).1 ht;obtain⟨g1,cs1,j1,j2,j3,j4,j5⟩:=h.at' t hm ht';have hne:=h.ne t t0 hm hm0 c1 ht' hth;rw[j1,hp] at hne;refine⟨g1,cs1,j1,j2,j3.grown hgr (λe=>hne (by cases e;rfl)),?_,j5⟩;have e:upd f i t.st=f t.st:=by unfold upd;rw[if_neg c2]
  rw[e];exact t.kk _ _ _ _ hk j4
end
theorem abp {P:Program} {o:Oper} {a:Act} {w w':World} {K:Value->World->Prop} (h:(execOp a.eval o).run P w= .ok .skip w') (k:K undef w'):acF P o a w K:=by
 intro Q;unfold Oper.wp;rw[h,Oper.upon_skip];exact⟨undef,rfl,k⟩
section
variable {T:TypeId} {w:World} {g:Nat} {x y z t c0 c1 c2 c3:Value}
theorem aqC (h:aak T w g [x]) (hT:T≠213) (c0:Value):w.grownBy (w.setCell ⟨g,0,none⟩ c0) (some g)/\aaR w (w.setCell ⟨g,0,none⟩ c0)/\aak T (w.setCell ⟨g,0,none⟩ c0) g [c0]:=
 ⟨aaU _ _ _,aaL h hT _,h.set 0 c0⟩
theorem ab4 (h:aak T w g [x,y]) (hT:T≠213) (c0 c1:Value):w.grownBy ((w.setCell ⟨g,0,none⟩ c0).setCell ⟨g,1,none⟩ c1) (some g)/\aaR w ((w.setCell ⟨g,0,none⟩ c0).setCell ⟨g,1,none⟩ c1)/\aak T ((w.setCell ⟨g,0,none⟩ c0).setCell ⟨g,1,none⟩ c1) g [c0,c1]:=by
 have h1:=h.set 0 c0;exact⟨abk (aaU _ _ _) (aaU _ _ _),(aaL h hT _).trans (aaL h1 hT _),h1.set 1 c1⟩
theorem ahH (h:aak T w g [x,y,z,t]) (hT:T≠213) (c0 c1 c2 c3:Value):w.grownBy ((((w.setCell ⟨g,0,none⟩ c0).setCell ⟨g,1,none⟩ c1).setCell ⟨g,2,none⟩ c2).setCell ⟨g,3,none⟩ c3) (some g)/\aaR w ((((w.setCell ⟨g,0,none⟩ c0).setCell ⟨g,1,none⟩ c1).setCell ⟨g,2,none⟩ c2).setCell ⟨g,3,none⟩ c3)/\aak T ((((w.setCell ⟨g,0,none⟩ c0).setCell ⟨g,1,none⟩ c1).setCell ⟨g,2,none⟩ c2).setCell ⟨g,3,none⟩ c3) g [c0,c1,c2,c3]:=by
 have h1:=h.set 0 c0;have h2:=h1.set 1 c1;have h3:=h2.set 2 c2;exact⟨abk (abk (aaU _ _ _) (aaU _ _ _)) (abk (aaU _ _ _) (aaU _ _ _)),((aaL h hT _).trans (aaL h1 hT _)).trans ((aaL h2 hT _).trans (aaL h3 hT _)),h3.set 3 c3⟩
theorem acR (w:World) (o:Obj):aaR w (w.alloc o):=aaC (aab _ _ none)
end
def KZ (old:Option Int) (q:Int):Bool->World->List Value->Prop
 |false,w,cs=>(∃ x y,cs=[x,y])/\∀ p,old=some p->ZC w cs p
 |true,w,cs=>ZC w cs q
def KN (q:Nat):Bool->World->List Value->Prop
 |false,_,cs=>∃ x,cs=[x]
 |true,w,cs=>aaD w (.agg cs.toArray) q
def KR (q:Rat):Bool->World->List Value->Prop
 |false,_,cs=>∃ x y z t,cs=[x,y,z,t]
 |true,w,cs=>RC w cs q
abbrev tgZ (d:Nat) (ia:Option Nat) (st:Nat) (old:Option Int) (q:Int):Tg:=⟨d,ia,st,37,KZ old q,λc _ _ _ k h=>by
 cases c with
 |false=>exact⟨h.1,λp e=>(h.2 p e).keep k⟩
 |true=>exact ZC.keep h k⟩
abbrev tgN (d:Nat) (ia:Option Nat) (st:Nat) (q:Nat):Tg:=⟨d,ia,st,35,KN q,λc _ _ _ k h=>by
 cases c with
 |false=>exact h
 |true=>exact aaD.keep h k⟩
abbrev tgR (d:Nat) (ia:Option Nat) (st:Nat) (q:Rat):Tg:=⟨d,ia,st,39,KR q,λc _ _ _ k h=>by
 cases c with
 |false=>exact h
 |true=>exact RC.keep h k⟩
theorem aea {w:World} {c0 c1:Value} {q:Int} (h:ZIs w (.agg #[c0,c1]) q):ZC w [c0,c1] q:=by
 obtain⟨cs,e,h⟩:=h;simp only[Value.agg.injEq] at e;have f:=congrArg Array.toList e;simp only at f;rw[f];exact h
theorem ate {w:World} {c0 c1 c2 c3:Value} {q:Rat} (h:RIs w (.agg #[c0,c1,c2,c3]) q):RC w [c0,c1,c2,c3] q:=by
 obtain⟨cs,e,h⟩:=h;simp only[Value.agg.injEq] at e;have f:=congrArg Array.toList e;simp only at f;rw[f];exact h
theorem abo {w:World} {cs:List Value} {q:Int} (h:ZC w cs q):∃ (a:Option Addr) (n:Nat) (b:Bool),cs=[.slice a n n,.bool b]:=by
 obtain⟨a,rfl,_⟩:=h;exact⟨a,_,_,rfl⟩
theorem ahJ {w:World} {cs:List Value} {q:Rat} (h:RC w cs q):∃ (a:Option Addr) (n:Nat) (b:Bool) (c:Option Addr) (m:Nat) (d:Bool),cs=[.slice a n n,.bool b,.slice c m m,.bool d]:=by
 obtain⟨c1,c2,D,rfl,⟨a,rfl,_⟩,⟨c,rfl,_⟩,_⟩:=h;exact⟨a,_,_,c,_,_,rfl⟩
theorem axA {w:World} {cs:List Value} {q:Nat} (h:aaD w (.agg cs.toArray) q):∃ (a:Option Addr) (n:Nat),cs=[.slice a n n]:=by
 obtain⟨a,e,_⟩:=h;simp only[Value.agg.injEq] at e;have f:=congrArg Array.toList e;simp only at f;exact⟨a,_,f⟩
def T3 (q:Int) (w:World) (v:Value):Prop:=∃ a b c,v= .tuple #[a,b,c]/\ZIs w a q
theorem T3.keep {q:Int} (w w':World) (v:Value) (k:aaR w w'):T3 q w v->T3 q w' v:=by
 rintro⟨a,b,c,rfl,h⟩;exact⟨a,b,c,rfl,h.keep k⟩
theorem aeu {w:World} {v:Value} {q:Nat} (h:aaD w v q):∃ (a:Option Addr) (n:Nat),v= .agg #[.slice a n n]:=by
 obtain⟨a,rfl,_⟩:=h;exact⟨a,_,rfl⟩
end Go.Proofs.YtcmplpkmfbhpdaaGreat
namespace Go.Proofs.YtcmplpkmfbhpdaaGreat
open Go Go.RowKit
theorem aoS (b:Bool):adN 0 b=0:=by cases b<;>rfl
theorem aue {x:Int} {b:Bool} {g:Nat} (hb:decide (x<0)=b) (hg:0<g) (h:(g:Int) ∣ x):adN (x.natAbs/g) b=x/(g:Int):=by
 obtain⟨q,rfl⟩:=h;have e:((g:Int)*q).natAbs/g=q.natAbs:=by rw[Int.natAbs_mul,Int.natAbs_natCast,Nat.mul_div_cancel_left _ hg]
 rw[e,Int.mul_ediv_cancel_left _ (by omega)];subst hb;unfold adN;by_cases hq:q<0
 ·rw[decide_eq_true (Int.mul_neg_of_pos_of_neg (by omega) hq)];simp;omega
 ·rw[decide_eq_false (by have:=Int.mul_nonneg (show (0:Int)<=g by omega) (show 0<=q by omega);omega)];simp;omega
theorem avr {x g:Nat} : (limbs (x/g)).length<=(limbs x).length:=limbs_mono (Nat.div_le_self _ _)
section
variable (w:World) (a:Option Addr) (n:Nat) (b:Bool) (c:Option Addr) (m:Nat) (d:Bool)
abbrev flW:World:=(((w.alloc (.cells #[.slice a n n,.bool b] 37)).alloc (.cells #[.slice c m m,.bool d] 37)).alloc (.cells #[.slice none 0 0,.bool false] 37)).alloc (.cells #[.slice none 0 0,.bool false] 37)
theorem az1:aak 37 (flW w a n b c m d) w.heap.size [.slice a n n,.bool b]:=(((aak.new _ w [.slice a n n,.bool b]).still (aab _ _ none)).still (aab _ _ none)).still (aab _ _ none)
theorem az0:aak 37 (flW w a n b c m d) (w.heap.size+1) [.slice c m m,.bool d]:=((aaN (cs:=[.slice c m m,.bool d]) (by simp)).still (aab _ _ none)).still (aab _ _ none)
theorem azZ:aak 37 (flW w a n b c m d) (w.heap.size+1+1) [.slice none 0 0,.bool false]:=(aaN (cs:=[.slice none 0 0,.bool false]) (by simp)).still (aab _ _ none)
theorem azY:aak 37 (flW w a n b c m d) (w.heap.size+1+1+1) [.slice none 0 0,.bool false]:=aaN (cs:=[.slice none 0 0,.bool false]) (by simp)
theorem azX:Own w.heap.size w (flW w a n b c m d):=((((aap _ _).alloc (by simp) _).alloc (by simp;omega) _).alloc (by simp;omega) _)
end
set_option maxHeartbeats 8000000 in
set_option maxRecDepth 100000 in
theorem agq (x:Int) (g:Nat) (v u:Value) (w:World) (hv:ZIs w v x) (hu:ZIs w u (g:Int)) (hg0:0<g) (hdv:(g:Int) ∣ x) (hx:(limbs x.natAbs).length<=800000) :
  Calls Tryz.prog 116 #[v,u] w λe w'=>∃ r,e= .returned r/\T3 (x/(g:Int)) w' r/\Below w.heap.size w w':=by
 obtain⟨a,n,b,rfl⟩:=hv.parts;obtain⟨c,m,d,rfl⟩:=hu.parts;obtain⟨hNx,hbx⟩:=afv hv;obtain⟨hNg,hbg⟩:=afv hu;have hd:d=false:=by rw[<- hbg];exact decide_eq_false (by omega)
 subst hd;have HB1:=Lib.hid (az1 w a n b c m false);have HB2:=Lib.hid (az0 w a n b c m false);have HB3:=Lib.hid (azZ w a n b c m false);have HB4:=Lib.hid (azY w a n b c m false);have HG:=Lib.hid (azX w a n b c m false);have HNX:=Lib.hid (Gr.natIs HG.out hNx);have HNG:=Lib.hid (Gr.natIs HG.out hNg);have HXL:=Lib.hid hx;have HSG:=Lib.hid (aue hbx hg0 hdv);have HQL:Hid ((limbs (x.natAbs/g)).length<=1000000):=Nat.le_trans avr (by omega);have HMD:Hid (x.natAbs%g=0):=by
  show _=_;obtain⟨q,rfl⟩:=hdv;rw[Int.natAbs_mul,Int.natAbs_natCast,Nat.mul_mod_right]
 have HG0:=Lib.hid hg0;obtain⟨x0,x1,x2,x3,x4⟩:=abV HB1.out;obtain⟨y0,y1,y2,y3,y4⟩:=abV HB2.out;clear hv hu hNx hNg hbx hbg hx hdv hg0;go_enter Tryz.func116,Tryz.ntmps116
 go_wp2_with fail
 refine (ag2 x.natAbs (g:Int).natAbs _ _ _ HNX.out HNG.out HXL.out).mono ?_;rintro e w1 ⟨hdr,hb1⟩;rw[Int.natAbs_natCast] at hdr;rcases hdr with ⟨h0,_⟩ | ⟨_,q,r,rfl,hq,hr⟩
 ·exact absurd h0 (by have:=HG0.out;omega)
 obtain⟨qa,qn,rfl⟩:=aeu hq;obtain⟨ra,rn,rfl⟩:=aeu hr;rw[HMD.out] at hr;have HQ:=Lib.hid hq;have HR:=Lib.hid hr;have hs1:=hb1.size;simp at hs1;have gr1:=aar hb1 none;have HE1:=Lib.hid (HB1.out.still gr1);have HE2:=Lib.hid (HB2.out.still gr1);have HE3:=Lib.hid (HB3.out.still gr1);have HE4:=Lib.hid (HB4.out.still gr1);have HBB:Hid (Below w.heap.size w w1):=HG.out.b.trans (hb1.mono HG.out.size);clear x0 x1 x2 x3 x4 y0 y1 y2 y3 y4 HB1 HB2 HB3 HB4 HNX HNG hq hr hb1 gr1 HG;obtain⟨wf,hwf⟩:∃ wf,wf=(w1.alloc (.cells #[.slice qa qn qn] 35)).alloc (.cells #[.slice ra rn rn] 35):=⟨_,rfl⟩
 have gf0:w1.grownBy wf none:=by rw[hwf];exact abk (aab _ _ none) (aab _ _ none)
 have gf1:w1.grownBy wf.drew none:=⟨gf0.os,gf0.tape,gf0.output,gf0.size,gf0.block⟩
 have HC1:Hid (aak 37 wf.drew w.heap.size [.slice a n n,.bool b]):=HE1.out.still gf1;have HC2:Hid (aak 37 wf.drew (w.heap.size+1) [.slice c m m,.bool false]):=HE2.out.still gf1;have HC3:Hid (aak 37 wf.drew (w.heap.size+1+1) [.slice none 0 0,.bool false]):=HE3.out.still gf1;have HC4:Hid (aak 37 wf.drew (w.heap.size+1+1+1) [.slice none 0 0,.bool false]):=HE4.out.still gf1;have HC5:Hid (aak 35 wf.drew w1.heap.size [.slice qa qn qn]):=by show aak _ _ _ _;rw[hwf];exact ((aak.new _ w1 [.slice qa qn qn]).still (aab _ _ none):aak _ ((w1.alloc (.cells #[.slice qa qn qn] 35)).alloc (.cells #[.slice ra rn rn] 35)) _ _)
 have HC6:Hid (aak 35 wf.drew (w1.heap.size+1) [.slice ra rn rn]):=by show aak _ _ _ _;rw[hwf];exact (aaN (T:=35) (g:=w1.heap.size+1) (cs:=[.slice ra rn rn]) (by simp):aak _ ((w1.alloc (.cells #[.slice qa qn qn] 35)).alloc (.cells #[.slice ra rn rn] 35)) _ _)
 have HK4:Hid (aaR w1 wf.drew):=by show aaR _ _;exact aaC gf1
 have HBL:Hid (Below w.heap.size w wf.drew):=by show Below _ _ _;exact HBB.out.grown gf1 (by omega) (by simp)
 clear gf0 gf1 HE1 HE2 HE3 HE4 HBB;subst hwf;go_wp2_with fail
 refine abq (s:=fun | 0=> .n (x.natAbs/g) | 1=> .is (.pointer (some ⟨w.heap.size,1,none⟩)) | 2=> .is (.bool b) | 3=> .is (.pointer (some ⟨w.heap.size+1,1,none⟩)) | 4=> .is (.bool false) | 5=> .is (.bool b) | 6=> .z (x/(g:Int)) | 7=> .n (0) | 8=> .is (.pointer (some ⟨w.heap.size,1,none⟩)) | 9=> .is (.bool b) | 10=> .z (0) | 11=> .any | 12=> .any | 13=> .any | 14=> .any | _=> .any) (J:=MM w.heap.size w w1 [(37,w.heap.size,[.slice a n n,.bool b]),(37,(w.heap.size+1),[.slice c m m,.bool false]),(37,(w.heap.size+1+1),[.slice none 0 0,.bool false]),(37,(w.heap.size+1+1+1),[.slice none 0 0,.bool false]),(35,w1.heap.size,[.slice qa qn qn]),(35,(w1.heap.size+1),[.slice ra rn rn])] [tgZ 10 (some 11) 13 none (x/(g:Int)),tgZ 11 (some 12) 14 none 0]) (by kernel_rfl) (by kernel_rfl) rfl (λf g a w hn h=>MM.ext (n:=15) (by simp) hn h) ?_ ?_ ?_
 ·exact⟨HBL.out,HK4.out,by have:=HBL.out.size;omega,(by intro q hq;simp only[List.mem_cons,List.not_mem_nil,or_false] at hq;rcases hq with rfl | rfl | rfl | rfl | rfl | rfl;exact HC1.out;exact HC2.out;exact HC3.out;exact HC4.out;exact HC5.out;exact HC6.out),(by intro t ht h;simp only[List.mem_cons,List.not_mem_nil,or_false] at ht;rcases ht with rfl | rfl<;>exact absurd (h _ rfl) (by simp)),(by intro t u h1 h2 hd c1 c2;simp only[List.mem_cons,List.not_mem_nil,or_false] at h1;rcases h1 with rfl | rfl<;>exact absurd (c1 _ rfl) (by simp))⟩
 ·intro i o f A W hi hJ hf hdep hdn hcl hfr hsz;rcases i with _ | _ | _ | _ | _ | _ | _ | _ | _ | _ | _ | _ | _ | _ | _ | i
  all_goals (simp at hi)
  all_goals (try subst hi)
  ·have t7:=hfr 7 (by simp);have hb4:aak 35 W w1.heap.size [.slice qa qn qn]:=hJ.kept (35,w1.heap.size,[.slice qa qn qn]) (by simp);have x40:W.cell? ⟨w1.heap.size,0,none⟩=some (.slice qa qn qn):=by rw[hb4.cell 0];rfl
   refine aag (v:= .agg #[.slice qa qn qn]) (w':=W) ?_ ⟨aaR.refl _,hJ.same _ _ _ (by simp),HQ.out.keep hJ.k⟩;simp[go_sem,Act.eval,t7,x40]
  ·have t2:=hfr 2 (by simp);refine aag (v:= .pointer (some ⟨w.heap.size,1,none⟩)) (w':=W) ?_ ⟨aaR.refl _,hJ.same _ _ _ (by simp),rfl⟩;simp[go_sem,Act.eval,t2]
  ·have t27:A.tmps.getD 27 undef= .pointer (some ⟨w.heap.size,1,none⟩):=hdep 1 _ 27 rfl (by kernel_rfl) rfl;have hb0:aak 37 W w.heap.size [.slice a n n,.bool b]:=hJ.kept (37,w.heap.size,[.slice a n n,.bool b]) (by simp);have x00:W.cell? ⟨w.heap.size,0,none⟩=some (.slice a n n):=by rw[hb0.cell 0];rfl
   have x01:W.cell? ⟨w.heap.size,1,none⟩=some (.bool b):=by rw[hb0.cell 1];rfl
   refine aag (v:=(.bool b)) (w':=W) ?_ ⟨aaR.refl _,hJ.same _ _ _ (by simp),rfl⟩;simp[go_sem,Act.eval,t27,x01]
  ·have t3:=hfr 3 (by simp);refine aag (v:= .pointer (some ⟨w.heap.size+1,1,none⟩)) (w':=W) ?_ ⟨aaR.refl _,hJ.same _ _ _ (by simp),rfl⟩;simp[go_sem,Act.eval,t3]
  ·have t29:A.tmps.getD 29 undef= .pointer (some ⟨w.heap.size+1,1,none⟩):=hdep 3 _ 29 rfl (by kernel_rfl) rfl;have hb1:aak 37 W (w.heap.size+1) [.slice c m m,.bool false]:=hJ.kept (37,(w.heap.size+1),[.slice c m m,.bool false]) (by simp);have x10:W.cell? ⟨(w.heap.size+1),0,none⟩=some (.slice c m m):=by rw[hb1.cell 0];rfl
   have x11:W.cell? ⟨(w.heap.size+1),1,none⟩=some (.bool false):=by rw[hb1.cell 1];rfl
   refine aag (v:=(.bool false)) (w':=W) ?_ ⟨aaR.refl _,hJ.same _ _ _ (by simp),rfl⟩;simp[go_sem,Act.eval,t29,x11]
  ·have t28:A.tmps.getD 28 undef= .bool b:=hdep 2 _ 28 rfl (by kernel_rfl) rfl;have t30:A.tmps.getD 30 undef= .bool false:=hdep 4 _ 30 rfl (by kernel_rfl) rfl;refine aag (v:= .bool b) (w':=W) ?_ ⟨aaR.refl _,hJ.same _ _ _ (by simp),rfl⟩;simp[go_sem,Act.eval,t28,t30]
  ·have t26:aaD W (A.tmps.getD 26 undef) (x.natAbs/g):=hdep 0 _ 26 rfl (by kernel_rfl) rfl;have t31:A.tmps.getD 31 undef= .bool b:=hdep 5 _ 31 rfl (by kernel_rfl) rfl;refine aat (w':=W) (f:=111) (xs:= #[A.tmps.getD 26 undef,.bool b]) (by simp[go_sem,Act.eval,t31]) ?_;refine (ab6 (x.natAbs/g) b _ _ t26 HQL.out).mono ?_;rintro e w1' ⟨r,rfl,hr0,hg1⟩;have hr:ZIs w1' r (x/(g:Int)):=HSG.out ▸ hr0;exact⟨r,rfl,Gr.keep hg1,hJ.gr hg1.b _ _ _ (by simp),hr⟩
  ·have t8:=hfr 8 (by simp);have hb5:aak 35 W (w1.heap.size+1) [.slice ra rn rn]:=hJ.kept (35,(w1.heap.size+1),[.slice ra rn rn]) (by simp);have x50:W.cell? ⟨(w1.heap.size+1),0,none⟩=some (.slice ra rn rn):=by rw[hb5.cell 0];rfl
   refine aag (v:= .agg #[.slice ra rn rn]) (w':=W) ?_ ⟨aaR.refl _,hJ.same _ _ _ (by simp),HR.out.keep hJ.k⟩;simp[go_sem,Act.eval,t8,x50]
  ·have t2:=hfr 2 (by simp);refine aag (v:= .pointer (some ⟨w.heap.size,1,none⟩)) (w':=W) ?_ ⟨aaR.refl _,hJ.same _ _ _ (by simp),rfl⟩;simp[go_sem,Act.eval,t2]
  ·have t34:A.tmps.getD 34 undef= .pointer (some ⟨w.heap.size,1,none⟩):=hdep 8 _ 34 rfl (by kernel_rfl) rfl;have hb0:aak 37 W w.heap.size [.slice a n n,.bool b]:=hJ.kept (37,w.heap.size,[.slice a n n,.bool b]) (by simp);have x00:W.cell? ⟨w.heap.size,0,none⟩=some (.slice a n n):=by rw[hb0.cell 0];rfl
   have x01:W.cell? ⟨w.heap.size,1,none⟩=some (.bool b):=by rw[hb0.cell 1];rfl
   refine aag (v:=(.bool b)) (w':=W) ?_ ⟨aaR.refl _,hJ.same _ _ _ (by simp),rfl⟩;simp[go_sem,Act.eval,t34,x01]
  ·have t33:aaD W (A.tmps.getD 33 undef) (0):=hdep 7 _ 33 rfl (by kernel_rfl) rfl;have t35:A.tmps.getD 35 undef= .bool b:=hdep 9 _ 35 rfl (by kernel_rfl) rfl;refine aat (w':=W) (f:=111) (xs:= #[A.tmps.getD 33 undef,.bool b]) (by simp[go_sem,Act.eval,t35]) ?_;refine (ab6 0 b _ _ t33 (by rw[limbs_zero];simp)).mono ?_;rintro e w1' ⟨r,rfl,hr0,hg1⟩;have hr:ZIs w1' r 0:=by have h:=hr0;rwa [aoS] at h
   exact⟨r,rfl,Gr.keep hg1,hJ.gr hg1.b _ _ _ (by simp),hr⟩
  ·have hst:f 13=false:=by
    cases h:f 13 with
    |false=>rfl
    |true=>rw[hcl 13 _ 11 rfl h (by kernel_rfl)] at hf;cases hf
   refine aag (v:= .pointer (some ⟨W.heap.size,0,none⟩)) (w':=W.alloc (.cells #[.slice none 0 0,.bool false] 37)) ?_ ⟨acR _ _,hJ.new (t0:=tgZ 10 (some 11) 13 none (x/(g:Int))) (cs:=[.slice none 0 0,.bool false]) 11 (by simp) rfl (by rw[hsz];simp) hst (by simp) (by simp) ⟨⟨_,_,rfl⟩,λp hp=>by cases hp⟩,trivial⟩;simp[go_sem]
  ·have hst:f 14=false:=by
    cases h:f 14 with
    |false=>rfl
    |true=>rw[hcl 14 _ 12 rfl h (by kernel_rfl)] at hf;cases hf
   refine aag (v:= .pointer (some ⟨W.heap.size,0,none⟩)) (w':=W.alloc (.cells #[.slice none 0 0,.bool false] 37)) ?_ ⟨acR _ _,hJ.new (t0:=tgZ 11 (some 12) 14 none 0) (cs:=[.slice none 0 0,.bool false]) 12 (by simp) rfl (by rw[hsz];simp) hst (by simp) (by simp) ⟨⟨_,_,rfl⟩,λp hp=>by cases hp⟩,trivial⟩;simp[go_sem]
  ·have t32:ZIs W (A.tmps.getD 32 undef) (x/(g:Int)):=hdep 6 _ 32 rfl (by kernel_rfl) rfl;obtain⟨g9,cs9,hp9,hb9,hk9⟩:=hJ.ahead (t0:=tgZ 10 (some 11) 13 none (x/(g:Int))) (by simp) (λj hj=>by cases hj;exact hdn 11 (by kernel_rfl)) hf;obtain⟨⟨y0,y1,rfl⟩,_⟩:=hk9;obtain⟨a8,n8,b8,e8⟩:=t32.parts;have hv8:=t32;rw[e8] at hv8;obtain⟨c0,c1,f0,f1,l0⟩:=abV hb9;obtain⟨k1,k2,k3⟩:=ab4 (T:=37) hb9 (by decide) (.slice a8 n8 n8) (.bool b8);refine abp ?_ ⟨k2,hJ.put 13 undef (by simp) (λj hj=>by cases hj;exact hdn 11 (by kernel_rfl)) rfl hp9 k1 k2 k3 (aea (hv8.keep k2)) (by simp) (by simp),trivial⟩;simp[go_sem,Act.eval,hp9,e8,c0,c1,f0,f1]
  ·have t36:ZIs W (A.tmps.getD 36 undef) (0):=hdep 10 _ 36 rfl (by kernel_rfl) rfl;obtain⟨g9,cs9,hp9,hb9,hk9⟩:=hJ.ahead (t0:=tgZ 11 (some 12) 14 none 0) (by simp) (λj hj=>by cases hj;exact hdn 12 (by kernel_rfl)) hf;obtain⟨⟨y0,y1,rfl⟩,_⟩:=hk9;obtain⟨a8,n8,b8,e8⟩:=t36.parts;have hv8:=t36;rw[e8] at hv8;obtain⟨c0,c1,f0,f1,l0⟩:=abV hb9;obtain⟨k1,k2,k3⟩:=ab4 (T:=37) hb9 (by decide) (.slice a8 n8 n8) (.bool b8);refine abp ?_ ⟨k2,hJ.put 14 undef (by simp) (λj hj=>by cases hj;exact hdn 12 (by kernel_rfl)) rfl hp9 k1 k2 k3 (aea (hv8.keep k2)) (by simp) (by simp),trivial⟩;simp[go_sem,Act.eval,hp9,e8,c0,c1,f0,f1]
 ·intro vs W hJ hs;obtain⟨g10,cs10,p10,_,b10,k10,n10⟩:=hJ.at' (tgZ 10 (some 11) 13 none (x/(g:Int))) (by simp) (λj hj=>rfl);obtain⟨g11,cs11,p11,_,b11,k11,n11⟩:=hJ.at' (tgZ 11 (some 12) 14 none 0) (by simp) (λj hj=>rfl);have hne:=hJ.ne (tgZ 10 (some 11) 13 none (x/(g:Int))) (tgZ 11 (some 12) 14 none 0) (by simp) (by simp) (by simp) (λj hj=>rfl) (λj hj=>rfl);rw[p10,p11] at hne;have e10:vs 10= .pointer (some ⟨g10,0,none⟩):=by simpa[aaK,Act.put] using p10
  have e11:vs 11= .pointer (some ⟨g11,0,none⟩):=by simpa[aaK,Act.put] using p11
  have k10':ZC W cs10 (x/(g:Int)):=k10;have k11':ZC W cs11 0:=k11;obtain⟨a1,n1,b1,rfl⟩:=abo k10';obtain⟨a2,rfl,k11r⟩:=k11';have HD3:Hid (aak 37 W (w.heap.size+1+1) [.slice none 0 0,.bool false]):=hJ.kept (37,(w.heap.size+1+1),[.slice none 0 0,.bool false]) (by simp);have HD4:Hid (aak 37 W (w.heap.size+1+1+1) [.slice none 0 0,.bool false]):=hJ.kept (37,(w.heap.size+1+1+1),[.slice none 0 0,.bool false]) (by simp);have HD10:Hid (aak 37 W g10 [.slice a1 n1 n1,.bool b1]):=b10;have HD11:Hid (aak 37 W g11 _):=b11;have HZ:Hid (ZIs W (.agg #[.slice a1 n1 n1,.bool b1]) (x/(g:Int))):=⟨_,rfl,k10'⟩
  have HBW:Hid (Below w.heap.size w W):=hJ.b;obtain⟨c0,c1,f0,f1,l0⟩:=abV HD10.out;obtain⟨d0,d1,h0,h1,l1⟩:=abV HD11.out;obtain⟨i0,i1,j0,j1,l2⟩:=abV HD3.out;obtain⟨m0,m1,o0,o1,l3⟩:=abV HD4.out;have u1:¬ w.heap.size+1+1=g10:=n10 (37,(w.heap.size+1+1),[.slice none 0 0,.bool false]) (by simp);have u2:¬ w.heap.size+1+1+1=g10:=n10 (37,(w.heap.size+1+1+1),[.slice none 0 0,.bool false]) (by simp);have u3:¬ w.heap.size+1+1=g11:=n11 (37,(w.heap.size+1+1),[.slice none 0 0,.bool false]) (by simp);have u4:¬ w.heap.size+1+1+1=g11:=n11 (37,(w.heap.size+1+1+1),[.slice none 0 0,.bool false]) (by simp);have v1:=Ne.symm u1;have v2:=Ne.symm u2;have v3:=Ne.symm u3;have v4:=Ne.symm u4;clear hne n10 p10 p11 k10 k10' k11 k11r n11 b10 b11 hJ hs;simp only[aaK,List.foldl_cons,List.foldl_nil,Act.put,List.setIfInBounds_toArray,List.set_cons_succ,List.set_cons_zero,e10,e11];generalize (limbs (Int.natAbs 0)).length=n2 at *;rw[show decide ((0:Int)<0)=false from rfl] at *;go_wp2_with fail
  have mixed:Tryz.prog.follows .mixedOrders=true:=by kernel_rfl
  go_big_region_o
  all_goals go_wp2_with fail
  obtain⟨p1,p2,p3⟩:=ab4 (T:=37) HD3.out (by decide) (.slice a1 n1 n1) (.bool b1);have HD5:=HD4.out.grown p1 (by simp);obtain⟨r1,r2,r3⟩:=ab4 (T:=37) HD5 (by decide) (.slice a2 n2 n2) (.bool false);have q1:=p3.grown r1 (by simp);have hsz1:=HBW.out.size;have hsz2:=p1.size;exact aep (T:=37) (U:=37) rfl (by kernel_rfl) (by kernel_rfl) rfl rfl rfl q1 r3 ⟨_,rfl,⟨_,_,_,rfl,HZ.out.keep (p2.trans r2)⟩,abd ((HBW.out.grown p1 hsz1 (by intro k e;cases e;omega)).grown r1 (by omega) (by intro k e;cases e;omega)) rfl rfl rfl rfl⟩
end Go.Proofs.YtcmplpkmfbhpdaaGreat
namespace Go.Proofs.YtcmplpkmfbhpdaaGreat
open Go Go.RowKit
theorem ahx {x:Int} {g:Nat} : (limbs (x/(g:Int)).natAbs).length<=(limbs x.natAbs).length:=by
 refine limbs_mono ?_;exact Int.natAbs_ediv_le_natAbs x g
theorem adR {g h:Nat} (e:Value.pointer (some ⟨g,0,none⟩)= .pointer (some ⟨h,0,none⟩)):h=g:=by
 injection e with e
 injection e with e
 injection e with e
 exact e.symm
theorem aci {w0 w:World} {B g:Nat} (h:Below B w0 w) (hg:B<=g) (c0 c1 c2 c3:Value):Below B w0 ((((w.setCell ⟨g,0,none⟩ c0).setCell ⟨g,1,none⟩ c1).setCell ⟨g,2,none⟩ c2).setCell ⟨g,3,none⟩ c3):=
 (((h.setCell hg _).setCell hg _).setCell hg _).setCell hg _
section
variable (w:World) (a:Option Addr) (n:Nat) (b:Bool) (c:Option Addr) (m:Nat) (d:Bool)
abbrev ar1:World:=((w.alloc (.cells #[.slice a n n,.bool b] 37)).alloc (.cells #[.slice c m m,.bool d] 37)).alloc (.cells #[.slice none 0 0,.bool false,.slice none 0 0,.bool false] 39)
theorem asE:aak 37 (ar1 w a n b c m d) w.heap.size [.slice a n n,.bool b]:=((aak.new _ w [.slice a n n,.bool b]).still (aab _ _ none)).still (aab _ _ none)
theorem asD:aak 37 (ar1 w a n b c m d) (w.heap.size+1) [.slice c m m,.bool d]:=(aaN (cs:=[.slice c m m,.bool d]) (by simp)).still (aab _ _ none)
theorem asC:aak 39 (ar1 w a n b c m d) (w.heap.size+1+1) [.slice none 0 0,.bool false,.slice none 0 0,.bool false]:=aaN (cs:=[.slice none 0 0,.bool false,.slice none 0 0,.bool false]) (by simp)
theorem asB:Below w.heap.size w (ar1 w a n b c m d):=((((aap _ _).alloc (by simp) _).alloc (by simp;omega) _)).b
end
set_option maxHeartbeats 8000000 in
set_option maxRecDepth 100000 in
theorem aeR (x y:Int) (v u:Value) (w:World) (hv:ZIs w v x) (hu:ZIs w u y) (hx:(limbs x.natAbs).length<=800000) (hy:(limbs y.natAbs).length<=800000) (hd0:y≠0) :
  Calls Tryz.prog 59 #[v,u] w λe w'=>∃ r,e= .returned r/\RIs w' r (Rat.divInt x y)/\Below w.heap.size w w':=by
 obtain⟨a,n,b,rfl⟩:=hv.parts;obtain⟨c,m,d,rfl⟩:=hu.parts;have HB1:Hid (aak 37 (ar1 w a n b c m d).drew w.heap.size [.slice a n n,.bool b]):=asE w a n b c m d;have HB2:Hid (aak 37 (ar1 w a n b c m d).drew (w.heap.size+1) [.slice c m m,.bool d]):=asD w a n b c m d;have HB3:Hid (aak 39 (ar1 w a n b c m d).drew (w.heap.size+1+1) [.slice none 0 0,.bool false,.slice none 0 0,.bool false]):=asC w a n b c m d;have HB:Hid (Below w.heap.size w (ar1 w a n b c m d).drew):=abd (asB w a n b c m d) rfl rfl rfl rfl;have HX:=Lib.hid hv;have HY:=Lib.hid hu;have HXL:=Lib.hid hx;have HYL:=Lib.hid hy;have HD0:=Lib.hid hd0;have HGP:Hid (0<(Nat.gcd x.natAbs y.natAbs)):=Nat.gcd_pos_of_pos_right _ (by omega);have HxD:Hid ((((Nat.gcd x.natAbs y.natAbs):Nat):Int) ∣ x):=Int.ofNat_dvd_left.2 (Nat.gcd_dvd_left _ _);have HyD:Hid ((((Nat.gcd x.natAbs y.natAbs):Nat):Int) ∣ y):=Int.ofNat_dvd_left.2 (Nat.gcd_dvd_right _ _);have HGL:Hid ((limbs (Nat.gcd x.natAbs y.natAbs)).length<=1000000):=Nat.le_trans (limbs_mono (Nat.le_of_dvd (by omega) (Nat.gcd_dvd_right _ _))) (by omega);clear hv hu hx hy hd0;go_enter Tryz.func59,Tryz.ntmps59
 go_wp2_with fail
 refine abq (s:=fun | 0=> .z (x) | 1=> .n (x.natAbs) | 2=> .z (y) | 3=> .n (y.natAbs) | 4=> .n ((Nat.gcd x.natAbs y.natAbs)) | 5=> .any | 6=> .any | _=> .any) (J:=MM w.heap.size w w [(37,w.heap.size,[.slice a n n,.bool b]),(37,(w.heap.size+1),[.slice c m m,.bool d]),(39,(w.heap.size+1+1),[.slice none 0 0,.bool false,.slice none 0 0,.bool false])] [tgN 5 (some 5) 6 (Nat.gcd x.natAbs y.natAbs)]) (by kernel_rfl) (by kernel_rfl) rfl (λf g a w hn h=>MM.ext (n:=7) (by simp) hn h) ?_ ?_ ?_
 ·exact⟨HB.out,aaX HB.out,by have:=HB.out.size;omega,(by intro q hq;simp only[List.mem_cons,List.not_mem_nil,or_false] at hq;rcases hq with rfl | rfl | rfl;exact HB1.out;exact HB2.out;exact HB3.out),(by intro t ht h;simp only[List.mem_cons,List.not_mem_nil,or_false] at ht;subst ht<;>exact absurd (h _ rfl) (by simp)),(by intro t u h1 h2 hd;simp only[List.mem_singleton] at h1 h2;subst h1;subst h2;exact absurd rfl hd)⟩
 ·intro i o f A W hi hJ hf hdep hdn hcl hfr hsz;rcases i with _ | _ | _ | _ | _ | _ | _ | i
  all_goals (simp at hi)
  all_goals (try subst hi)
  ·have t2:=hfr 2 (by simp);have hb0:aak 37 W w.heap.size [.slice a n n,.bool b]:=hJ.kept (37,w.heap.size,[.slice a n n,.bool b]) (by simp);have x00:W.cell? ⟨w.heap.size,0,none⟩=some (.slice a n n):=by rw[hb0.cell 0];rfl
   have x01:W.cell? ⟨w.heap.size,1,none⟩=some (.bool b):=by rw[hb0.cell 1];rfl
   refine aag (v:= .agg #[.slice a n n,.bool b]) (w':=W) ?_ ⟨aaR.refl _,hJ.same _ _ _ (by simp),HX.out.keep hJ.k⟩;simp[go_sem,Act.eval,t2,x00,x01]
  ·have t7:ZIs W (A.tmps.getD 7 undef) (x):=hdep 0 _ 7 rfl (by kernel_rfl) rfl;refine aat (w':=W) (f:=113) (xs:= #[A.tmps.getD 7 undef]) (by simp[go_sem,Act.eval]) ?_;refine (aoE x _ _ t7).mono ?_;rintro e w1 ⟨r,rfl,hr,hg1⟩;exact⟨r,rfl,Gr.keep hg1,hJ.gr hg1.b _ _ _ (by simp),hr⟩
  ·have t3:=hfr 3 (by simp);have hb1:aak 37 W (w.heap.size+1) [.slice c m m,.bool d]:=hJ.kept (37,(w.heap.size+1),[.slice c m m,.bool d]) (by simp);have x10:W.cell? ⟨(w.heap.size+1),0,none⟩=some (.slice c m m):=by rw[hb1.cell 0];rfl
   have x11:W.cell? ⟨(w.heap.size+1),1,none⟩=some (.bool d):=by rw[hb1.cell 1];rfl
   refine aag (v:= .agg #[.slice c m m,.bool d]) (w':=W) ?_ ⟨aaR.refl _,hJ.same _ _ _ (by simp),HY.out.keep hJ.k⟩;simp[go_sem,Act.eval,t3,x10,x11]
  ·have t9:ZIs W (A.tmps.getD 9 undef) (y):=hdep 2 _ 9 rfl (by kernel_rfl) rfl;refine aat (w':=W) (f:=113) (xs:= #[A.tmps.getD 9 undef]) (by simp[go_sem,Act.eval]) ?_;refine (aoE y _ _ t9).mono ?_;rintro e w1 ⟨r,rfl,hr,hg1⟩;exact⟨r,rfl,Gr.keep hg1,hJ.gr hg1.b _ _ _ (by simp),hr⟩
  ·have t8:aaD W (A.tmps.getD 8 undef) (x.natAbs):=hdep 1 _ 8 rfl (by kernel_rfl) rfl;have t10:aaD W (A.tmps.getD 10 undef) (y.natAbs):=hdep 3 _ 10 rfl (by kernel_rfl) rfl;refine aat (w':=W) (f:=114) (xs:= #[A.tmps.getD 8 undef,A.tmps.getD 10 undef]) (by simp[go_sem,Act.eval]) ?_;refine (amC _ _ _ _ _ t8 t10 HXL.out HYL.out).mono ?_;rintro e w1 ⟨r,rfl,hr,hg1⟩;exact⟨r,rfl,aaX hg1,hJ.gr hg1 _ _ _ (by simp),hr⟩
  ·have hst:f 6=false:=by
    cases h:f 6 with
    |false=>rfl
    |true=>rw[hcl 6 _ 5 rfl h (by kernel_rfl)] at hf;cases hf
   refine aag (v:= .pointer (some ⟨W.heap.size,0,none⟩)) (w':=W.alloc (.cells #[.slice none 0 0] 35)) ?_ ⟨acR _ _,hJ.new (t0:=tgN 5 (some 5) 6 (Nat.gcd x.natAbs y.natAbs)) (cs:=[.slice none 0 0]) 5 (by simp) rfl (by rw[hsz];simp) hst (by simp) (by simp) ⟨_,rfl⟩,trivial⟩;simp[go_sem]
  ·have t11:aaD W (A.tmps.getD 11 undef) ((Nat.gcd x.natAbs y.natAbs)):=hdep 4 _ 11 rfl (by kernel_rfl) rfl;obtain⟨g9,cs9,hp9,hb9,hk9⟩:=hJ.ahead (t0:=tgN 5 (some 5) 6 (Nat.gcd x.natAbs y.natAbs)) (by simp) (λj hj=>by cases hj;exact hdn 5 (by kernel_rfl)) hf;obtain⟨y0,rfl⟩:=hk9;obtain⟨a8,n8,e8⟩:=aeu t11;have hv8:=t11;rw[e8] at hv8;have c0:W.cell? ⟨g9,0,none⟩=some y0:=by rw[hb9.cell 0];rfl
   have f0:=hb9.free 0;obtain⟨k1,k2,k3⟩:=aqC (T:=35) hb9 (by decide) (.slice a8 n8 n8);refine abp ?_ ⟨k2,hJ.put 6 undef (by simp) (λj hj=>by cases hj;exact hdn 5 (by kernel_rfl)) rfl hp9 k1 k2 k3 (aaD.keep hv8 k2) (by simp) (by simp),trivial⟩;simp[go_sem,Act.eval,hp9,e8,c0,f0]
 ·intro vs1 W1 hJ1 hs1;obtain⟨g5,cs5,p5,_,b5,k5,n5⟩:=hJ1.at' (tgN 5 (some 5) 6 (Nat.gcd x.natAbs y.natAbs)) (by simp) (λj hj=>rfl);have e5:vs1 5= .pointer (some ⟨g5,0,none⟩):=by simpa[aaK,Act.put] using p5
  have k5':aaD W1 (.agg cs5.toArray) (Nat.gcd x.natAbs y.natAbs):=k5;obtain⟨ga,gn,rfl⟩:=axA k5';have HG5:Hid (aaD W1 (.agg #[.slice ga gn gn]) (Nat.gcd x.natAbs y.natAbs)):=k5';have HC1:Hid (aak 37 W1 w.heap.size [.slice a n n,.bool b]):=hJ1.kept (37,w.heap.size,[.slice a n n,.bool b]) (by simp);have HC2:Hid (aak 37 W1 (w.heap.size+1) [.slice c m m,.bool d]):=hJ1.kept (37,(w.heap.size+1),[.slice c m m,.bool d]) (by simp);have HC3:Hid (aak 39 W1 (w.heap.size+1+1) [.slice none 0 0,.bool false,.slice none 0 0,.bool false]):=hJ1.kept (39,(w.heap.size+1+1),[.slice none 0 0,.bool false,.slice none 0 0,.bool false]) (by simp);have HC5:Hid (aak 35 W1 g5 [.slice ga gn gn]):=b5;have u1:w.heap.size≠g5:=n5 (37,w.heap.size,[.slice a n n,.bool b]) (by simp);have u2:w.heap.size+1≠g5:=n5 (37,(w.heap.size+1),[.slice c m m,.bool d]) (by simp);have u3:w.heap.size+1+1≠g5:=n5 (39,(w.heap.size+1+1),[.slice none 0 0,.bool false,.slice none 0 0,.bool false]) (by simp);have HXW:Hid (ZIs W1 (.agg #[.slice a n n,.bool b]) x):=HX.out.keep hJ1.k;have HYW:Hid (ZIs W1 (.agg #[.slice c m m,.bool d]) y):=HY.out.keep hJ1.k;have HBW:Hid (Below w.heap.size w W1):=hJ1.b;clear p5 b5 k5 k5' n5 hJ1 hs1 HB1 HB2 HB3 HB HX HY;simp only[aaK,List.foldl_cons,List.foldl_nil,Act.put,List.setIfInBounds_toArray,List.set_cons_succ,List.set_cons_zero,e5];clear e5;go_wp2_with fail
  refine (aev 1 _ (by omega)).mono ?_;rintro e w1 ⟨v1,rfl,hv1,hg1⟩;obtain⟨oa,on,rfl⟩:=aeu hv1;have HE5:=Lib.hid (HC5.out.still (Gr.grown hg1));have HO:Hid (aaD w1 (.agg #[.slice oa on on]) 1):=hv1;have HG1:=Lib.hid hg1;have x50:w1.cell? ⟨g5,0,none⟩=some (.slice ga gn gn):=by rw[HE5.out.cell 0];rfl
  have l5:=HE5.out.lt;clear hv1 hg1;go_wp2_with fail
  refine (ab1 (Nat.gcd x.natAbs y.natAbs) 1 _ _ _ ((Gr.natIs HG1.out HG5.out).keep (acR _ _)) (HO.out.keep (acR _ _)) HGL.out).mono ?_;rintro e w2 ⟨rfl,hg2⟩;have gr2:W1.grownBy w2 none:=abk (Gr.grown HG1.out) (abk (aab _ _ none) (Gr.grown hg2));have HS1:=Lib.hid (HC1.out.still gr2);have HS2:=Lib.hid (HC2.out.still gr2);have HS3:=Lib.hid (HC3.out.still gr2);have HS5:=Lib.hid (HC5.out.still gr2);have HSX:=Lib.hid (HXW.out.keep (aaC gr2));have HSY:=Lib.hid (HYW.out.keep (aaC gr2));have HxG:=Lib.hid (aaD.keep HG5.out (aaC gr2));have HSB:Hid (Below w.heap.size w w2):=HBW.out.grown gr2 HBW.out.size (by simp);clear x50 l5 hg2 gr2 HC1 HC2 HC3 HC5 HXW HYW HBW HG5 HE5 HO HG1;by_cases hG1:(Nat.gcd x.natAbs y.natAbs)=1
  ·rw[show abe (((Nat.gcd x.natAbs y.natAbs):Nat):Int) ((1:Nat):Int)=0 by rw[hG1];rfl];have hSX:ZIs w2 (.agg #[.slice a n n,.bool b]) (x/(((Nat.gcd x.natAbs y.natAbs):Nat):Int)):=by rw[hG1];simpa using HSX.out
   have hSY:ZIs w2 (.agg #[.slice c m m,.bool d]) (y/(((Nat.gcd x.natAbs y.natAbs):Nat):Int)):=by rw[hG1];simpa using HSY.out
   clear HSX HSY hG1;have HSX:=Lib.hid hSX;have HSY:=Lib.hid hSY;clear hSX hSY HS5 HxG;have HLX:Hid ((limbs (x/(((Nat.gcd x.natAbs y.natAbs):Nat):Int)).natAbs).length<=1000000):=Nat.le_trans ahx (by have:=HXL.out;omega);have HLY:Hid ((limbs (y/(((Nat.gcd x.natAbs y.natAbs):Nat):Int)).natAbs).length<=1000000):=Nat.le_trans ahx (by have:=HYL.out;omega);obtain⟨d0,d1,d2,d3,d4⟩:=abV HS2.out;go_wp2_with fail
   refine (aej (y/(((Nat.gcd x.natAbs y.natAbs):Nat):Int)) _ _ HSY.out HLY.out).mono ?_;rintro e w9 ⟨rfl,hg9⟩;have HT1:=Lib.hid (HS1.out.still (Gr.grown hg9));have HT2:=Lib.hid (HS2.out.still (Gr.grown hg9));have HT3:=Lib.hid (HS3.out.still (Gr.grown hg9));have HTX:=Lib.hid (Gr.zIs hg9 HSX.out);have HTY:=Lib.hid (Gr.zIs hg9 HSY.out);have HTB:Hid (Below w.heap.size w w9):=HSB.out.trans (hg9.b.mono HSB.out.size);clear hg9 d0 d1 d2 d3 d4 HS1 HS2 HS3 HSX HSY HSB;by_cases hn:(y/(((Nat.gcd x.natAbs y.natAbs):Nat):Int))<0
   ·rw[show abT (y/(((Nat.gcd x.natAbs y.natAbs):Nat):Int))= -1 from if_pos hn];go_wp2_with fail
    refine abq (s:=fun | 0=> .z ((x/(((Nat.gcd x.natAbs y.natAbs):Nat):Int))) | 1=> .z (-(x/(((Nat.gcd x.natAbs y.natAbs):Nat):Int))) | 2=> .z ((y/(((Nat.gcd x.natAbs y.natAbs):Nat):Int))) | 3=> .z (-(y/(((Nat.gcd x.natAbs y.natAbs):Nat):Int))) | 4=> .any | 5=> .any | _=> .any) (J:=MM w.heap.size w w9 [(39,(w.heap.size+1+1),[.slice none 0 0,.bool false,.slice none 0 0,.bool false])] [tgZ 2 none 4 (some (x/(((Nat.gcd x.natAbs y.natAbs):Nat):Int))) (-(x/(((Nat.gcd x.natAbs y.natAbs):Nat):Int))),tgZ 3 none 5 (some (y/(((Nat.gcd x.natAbs y.natAbs):Nat):Int))) (-(y/(((Nat.gcd x.natAbs y.natAbs):Nat):Int)))]) (by kernel_rfl) (by kernel_rfl) rfl (λf g a w hn h=>MM.ext (n:=6) (by simp) hn h) ?_ ?_ ?_
    ·refine⟨abd HTB.out rfl rfl rfl rfl,λ_ _ h=>h,HTB.out.size,(by intro q hq;simp only[List.mem_cons,List.not_mem_nil,or_false] at hq;subst hq;exact HT3.out),?_,?_⟩
     ·intro t ht h;simp only[List.mem_cons,List.not_mem_nil,or_false] at ht;rcases ht with rfl | rfl
      ·exact⟨w.heap.size,_,rfl,Nat.le_refl _,HT1.out,⟨⟨_,_,rfl⟩,λp hp=>by cases hp;exact aea HTX.out⟩,by intro q hq;simp only[List.mem_singleton] at hq;subst hq;simp;omega⟩
      ·exact⟨w.heap.size+1,_,rfl,by omega,HT2.out,⟨⟨_,_,rfl⟩,λp hp=>by cases hp;exact aea HTY.out⟩,by intro q hq;simp only[List.mem_singleton] at hq;subst hq;simp⟩
     ·intro t u h1 h2 hd _ _;simp only[List.mem_cons,List.not_mem_nil,or_false] at h1 h2;rcases h1 with rfl | rfl<;>rcases h2 with rfl | rfl
      ·exact absurd rfl hd
      ·simp
      ·simp
      ·exact absurd rfl hd
    ·intro i o f A W hi hJ hf hdep hdn hcl hfr hsz;rcases i with _ | _ | _ | _ | _ | _ | i
     all_goals (simp at hi)
     all_goals (try subst hi)
     ·have hst:f 4=false:=by
       cases h:f 4 with
       |false=>rfl
       |true=>rw[hcl 4 _ 0 rfl h (by kernel_rfl)] at hf;cases hf
      obtain⟨g9,cs9,hp9,hb9,hk9⟩:=hJ.ahead (t0:=tgZ 2 none 4 (some (x/(((Nat.gcd x.natAbs y.natAbs):Nat):Int))) (-(x/(((Nat.gcd x.natAbs y.natAbs):Nat):Int)))) (by simp) (λj hj=>by cases hj) hst;obtain⟨a9,n9,b9,rfl⟩:=abo (hk9.2 _ rfl);obtain⟨c0,c1,f0,f1,l0⟩:=abV hb9;refine aag (v:= .agg #[.slice a9 n9 n9,.bool b9]) (w':=W) ?_ ⟨aaR.refl _,hJ.same _ _ _ (by simp),⟨_,rfl,hk9.2 _ rfl⟩⟩;simp[go_sem,Act.eval,hp9,c0,c1]
     ·have t36:ZIs W (A.tmps.getD 36 undef) ((x/(((Nat.gcd x.natAbs y.natAbs):Nat):Int))):=hdep 0 _ 36 rfl (by kernel_rfl) rfl;refine aat (w':=W) (f:=118) (xs:= #[A.tmps.getD 36 undef]) (by simp[go_sem,Act.eval]) ?_;refine (afM (x/(((Nat.gcd x.natAbs y.natAbs):Nat):Int)) _ _ t36 HLX.out).mono ?_;rintro e w1 ⟨r,rfl,hr,hg1⟩;exact⟨r,rfl,Gr.keep hg1,hJ.gr hg1.b _ _ _ (by simp),hr⟩
     ·have hst:f 5=false:=by
       cases h:f 5 with
       |false=>rfl
       |true=>rw[hcl 5 _ 2 rfl h (by kernel_rfl)] at hf;cases hf
      obtain⟨g9,cs9,hp9,hb9,hk9⟩:=hJ.ahead (t0:=tgZ 3 none 5 (some (y/(((Nat.gcd x.natAbs y.natAbs):Nat):Int))) (-(y/(((Nat.gcd x.natAbs y.natAbs):Nat):Int)))) (by simp) (λj hj=>by cases hj) hst;obtain⟨a9,n9,b9,rfl⟩:=abo (hk9.2 _ rfl);obtain⟨c0,c1,f0,f1,l0⟩:=abV hb9;refine aag (v:= .agg #[.slice a9 n9 n9,.bool b9]) (w':=W) ?_ ⟨aaR.refl _,hJ.same _ _ _ (by simp),⟨_,rfl,hk9.2 _ rfl⟩⟩;simp[go_sem,Act.eval,hp9,c0,c1]
     ·have t38:ZIs W (A.tmps.getD 38 undef) ((y/(((Nat.gcd x.natAbs y.natAbs):Nat):Int))):=hdep 2 _ 38 rfl (by kernel_rfl) rfl;refine aat (w':=W) (f:=118) (xs:= #[A.tmps.getD 38 undef]) (by simp[go_sem,Act.eval]) ?_;refine (afM (y/(((Nat.gcd x.natAbs y.natAbs):Nat):Int)) _ _ t38 HLY.out).mono ?_;rintro e w1 ⟨r,rfl,hr,hg1⟩;exact⟨r,rfl,Gr.keep hg1,hJ.gr hg1.b _ _ _ (by simp),hr⟩
     ·have t37:ZIs W (A.tmps.getD 37 undef) (-(x/(((Nat.gcd x.natAbs y.natAbs):Nat):Int))):=hdep 1 _ 37 rfl (by kernel_rfl) rfl;obtain⟨g9,cs9,hp9,hb9,hk9⟩:=hJ.ahead (t0:=tgZ 2 none 4 (some (x/(((Nat.gcd x.natAbs y.natAbs):Nat):Int))) (-(x/(((Nat.gcd x.natAbs y.natAbs):Nat):Int)))) (by simp) (λj hj=>by cases hj) hf;obtain⟨⟨y0,y1,rfl⟩,_⟩:=hk9;obtain⟨a8,n8,b8,e8⟩:=t37.parts;have hv8:=t37;rw[e8] at hv8;obtain⟨c0,c1,f0,f1,l0⟩:=abV hb9;obtain⟨k1,k2,k3⟩:=ab4 (T:=37) hb9 (by decide) (.slice a8 n8 n8) (.bool b8);refine abp ?_ ⟨k2,hJ.put 4 undef (by simp) (λj hj=>by cases hj) rfl hp9 k1 k2 k3 (aea (hv8.keep k2)) (by simp) (by simp),trivial⟩;simp[go_sem,Act.eval,hp9,e8,c0,c1,f0,f1]
     ·have t39:ZIs W (A.tmps.getD 39 undef) (-(y/(((Nat.gcd x.natAbs y.natAbs):Nat):Int))):=hdep 3 _ 39 rfl (by kernel_rfl) rfl;obtain⟨g9,cs9,hp9,hb9,hk9⟩:=hJ.ahead (t0:=tgZ 3 none 5 (some (y/(((Nat.gcd x.natAbs y.natAbs):Nat):Int))) (-(y/(((Nat.gcd x.natAbs y.natAbs):Nat):Int)))) (by simp) (λj hj=>by cases hj) hf;obtain⟨⟨y0,y1,rfl⟩,_⟩:=hk9;obtain⟨a8,n8,b8,e8⟩:=t39.parts;have hv8:=t39;rw[e8] at hv8;obtain⟨c0,c1,f0,f1,l0⟩:=abV hb9;obtain⟨k1,k2,k3⟩:=ab4 (T:=37) hb9 (by decide) (.slice a8 n8 n8) (.bool b8);refine abp ?_ ⟨k2,hJ.put 5 undef (by simp) (λj hj=>by cases hj) rfl hp9 k1 k2 k3 (aea (hv8.keep k2)) (by simp) (by simp),trivial⟩;simp[go_sem,Act.eval,hp9,e8,c0,c1,f0,f1]
    ·intro vs7a W7a hJ7a hs7a;obtain⟨gA,csA,pA,_,bA,kA,_⟩:=hJ7a.at' (tgZ 2 none 4 (some (x/(((Nat.gcd x.natAbs y.natAbs):Nat):Int))) (-(x/(((Nat.gcd x.natAbs y.natAbs):Nat):Int)))) (by simp) (λj hj=>by cases hj);obtain⟨gB,csB,pB,_,bB,kB,_⟩:=hJ7a.at' (tgZ 3 none 5 (some (y/(((Nat.gcd x.natAbs y.natAbs):Nat):Int))) (-(y/(((Nat.gcd x.natAbs y.natAbs):Nat):Int)))) (by simp) (λj hj=>by cases hj);have eA:gA=w.heap.size:=adR (by simpa[aaK,Act.put] using pA);have eB:gB=w.heap.size+1:=adR (by simpa[aaK,Act.put] using pB);subst eA;subst eB;have kA':ZC W7a csA (-(x/(((Nat.gcd x.natAbs y.natAbs):Nat):Int))):=kA;have kB':ZC W7a csB (-(y/(((Nat.gcd x.natAbs y.natAbs):Nat):Int))):=kB;obtain⟨aA,nA,bbA,rfl⟩:=abo kA';obtain⟨aB,nB,bbB,rfl⟩:=abo kB';have HU1:Hid (aak 37 W7a w.heap.size [.slice aA nA nA,.bool bbA]):=bA;have HU2:Hid (aak 37 W7a (w.heap.size+1) [.slice aB nB nB,.bool bbB]):=bB;have HU3:Hid (aak 39 W7a (w.heap.size+1+1) [.slice none 0 0,.bool false,.slice none 0 0,.bool false]):=hJ7a.kept (39,(w.heap.size+1+1),[.slice none 0 0,.bool false,.slice none 0 0,.bool false]) (by simp);have HUX:Hid (ZIs W7a (.agg #[.slice aA nA nA,.bool bbA]) (-(x/(((Nat.gcd x.natAbs y.natAbs):Nat):Int)))):=⟨_,rfl,kA'⟩
     have HUY:Hid (ZIs W7a (.agg #[.slice aB nB nB,.bool bbB]) (-(y/(((Nat.gcd x.natAbs y.natAbs):Nat):Int)))):=⟨_,rfl,kB'⟩
     have HUB:Hid (Below w.heap.size w W7a):=hJ7a.b;clear pA pB bA bB kA kB kA' kB' hJ7a hs7a HT1 HT2 HT3 HTX HTY HTB;have HT1:=HU1;have HT2:=HU2;have HT3:=HU3;have HTB:=HUB;clear HU1 HU2 HU3 HUB;simp only[aaK,List.foldl_cons,List.foldl_nil,Act.put,List.setIfInBounds_toArray,List.set_cons_succ,List.set_cons_zero];obtain⟨c0,c1,c2,c3,c4⟩:=abV HT1.out;obtain⟨d0,d1,d2,d3,d4⟩:=abV HT2.out;obtain⟨i0,i1,i2,i3⟩:=aie HT3.out;obtain⟨j0,j1,j2,j3,j4⟩:=afA HT3.out;have hnum:=(acH x y (Nat.gcd x.natAbs y.natAbs) rfl HD0.out).1;have hden:=(acH x y (Nat.gcd x.natAbs y.natAbs) rfl HD0.out).2;rw[if_pos hn] at hnum hden;go_wp2_with fail
     obtain⟨s1,s2⟩:=ae0 (avX (q:=Rat.divInt x y) (by rw[hnum];exact HUX.out) (by rw[hden];exact HUY.out)) HT3.out (by decide);exact ahm rfl rfl rfl s1 ⟨_,rfl,s2,aci HTB.out (by omega) _ _ _ _⟩
   ·have hsg:¬ abT (y/(((Nat.gcd x.natAbs y.natAbs):Nat):Int))<0:=by unfold abT;rw[if_neg hn];split<;>omega
    obtain⟨c0,c1,c2,c3,c4⟩:=abV HT1.out;obtain⟨d0,d1,d2,d3,d4⟩:=abV HT2.out;obtain⟨i0,i1,i2,i3⟩:=aie HT3.out;obtain⟨j0,j1,j2,j3,j4⟩:=afA HT3.out;have hnum:=(acH x y (Nat.gcd x.natAbs y.natAbs) rfl HD0.out).1;have hden:=(acH x y (Nat.gcd x.natAbs y.natAbs) rfl HD0.out).2;rw[if_neg hn] at hnum hden;go_wp2_with fail
    obtain⟨s1,s2⟩:=ae0 (avX (q:=Rat.divInt x y) (by rw[hnum];exact HTX.out) (by rw[hden];exact HTY.out)) HT3.out (by decide);exact ahm rfl rfl rfl s1 ⟨_,rfl,s2,aci HTB.out (by omega) _ _ _ _⟩
  ·have hcc:abe (((Nat.gcd x.natAbs y.natAbs):Nat):Int) ((1:Nat):Int)≠0:=by
    have:=HGP.out;unfold abe;rw[if_neg (by omega),if_pos (by omega)];decide
   generalize abe (((Nat.gcd x.natAbs y.natAbs):Nat):Int) ((1:Nat):Int)=cc at hcc ⊢;have hcb:(cc == 0)=false:=beq_false_of_ne hcc;clear hG1;go_wp2_with fail
   refine abq (s:=fun | 0=> .z (x) | 1=> .n ((Nat.gcd x.natAbs y.natAbs)) | 2=> .z ((((Nat.gcd x.natAbs y.natAbs):Nat):Int)) | 3=> .p (T3 (x/(((Nat.gcd x.natAbs y.natAbs):Nat):Int))) T3.keep | 4=> .p (T3 (x/(((Nat.gcd x.natAbs y.natAbs):Nat):Int))) T3.keep | 5=> .z (x/(((Nat.gcd x.natAbs y.natAbs):Nat):Int)) | 6=> .any | 7=> .any | 8=> .any | _=> .any) (J:=MM w.heap.size w w2 [(37,(w.heap.size+1),[.slice c m m,.bool d]),(39,(w.heap.size+1+1),[.slice none 0 0,.bool false,.slice none 0 0,.bool false]),(35,g5,[.slice ga gn gn])] [tgZ 2 none 8 (some x) (x/(((Nat.gcd x.natAbs y.natAbs):Nat):Int))]) (by kernel_rfl) (by kernel_rfl) rfl (λf g a w hn h=>MM.ext (n:=9) (by simp) hn h) ?_ ?_ ?_
   ·refine⟨abd HSB.out rfl rfl rfl rfl,λ_ _ h=>h,HSB.out.size,(by intro q hq;simp only[List.mem_cons,List.not_mem_nil,or_false] at hq;rcases hq with rfl | rfl | rfl;exact HS2.out;exact HS3.out;exact HS5.out),?_,(by intro t u h1 h2 hd;simp only[List.mem_singleton] at h1 h2;subst h1;subst h2;exact absurd rfl hd)⟩;intro t ht h;simp only[List.mem_cons,List.not_mem_nil,or_false] at ht;subst ht;exact⟨w.heap.size,_,rfl,by omega,HS1.out,⟨⟨_,_,rfl⟩,λp hp=>by cases hp;exact aea HSX.out⟩,by intro q hq;simp only[List.mem_cons,List.not_mem_nil,or_false] at hq;rcases hq with rfl | rfl | rfl<;>simp<;>omega⟩
   ·intro i o f A W hi hJ hf hdep hdn hcl hfr hsz;rcases i with _ | _ | _ | _ | _ | _ | _ | _ | _ | i
    all_goals (simp at hi)
    all_goals (try subst hi)
    ·have hst:f 8=false:=by
      cases h:f 8 with
      |false=>rfl
      |true=>rw[hcl 8 _ 0 rfl h (by kernel_rfl)] at hf;cases hf
     obtain⟨g9,cs9,hp9,hb9,hk9⟩:=hJ.ahead (t0:=tgZ 2 none 8 (some x) (x/(((Nat.gcd x.natAbs y.natAbs):Nat):Int))) (by simp) (λj hj=>by cases hj) hst;obtain⟨a9,n9,b9,rfl⟩:=abo (hk9.2 _ rfl);obtain⟨c0,c1,f0,f1,l0⟩:=abV hb9;refine aag (v:= .agg #[.slice a9 n9 n9,.bool b9]) (w':=W) ?_ ⟨aaR.refl _,hJ.same _ _ _ (by simp),⟨_,rfl,hk9.2 _ rfl⟩⟩;simp[go_sem,Act.eval,hp9,c0,c1]
    ·have t5:=hfr 5 (by simp);have hb2:aak 35 W g5 [.slice ga gn gn]:=hJ.kept (35,g5,[.slice ga gn gn]) (by simp);have x20:W.cell? ⟨g5,0,none⟩=some (.slice ga gn gn):=by rw[hb2.cell 0];rfl
     refine aag (v:= .agg #[.slice ga gn gn]) (w':=W) ?_ ⟨aaR.refl _,hJ.same _ _ _ (by simp),HxG.out.keep hJ.k⟩;simp[go_sem,Act.eval,t5,x20]
    ·have t19:aaD W (A.tmps.getD 19 undef) ((Nat.gcd x.natAbs y.natAbs)):=hdep 1 _ 19 rfl (by kernel_rfl) rfl;refine aat (w':=W) (f:=117) (xs:= #[A.tmps.getD 19 undef]) (by simp[go_sem,Act.eval]) ?_;refine (aoy (Nat.gcd x.natAbs y.natAbs) _ _ t19 HGL.out).mono ?_;rintro e w1 ⟨r,rfl,hr,hg1⟩;exact⟨r,rfl,Gr.keep hg1,hJ.gr hg1.b _ _ _ (by simp),hr⟩
    ·have t18:ZIs W (A.tmps.getD 18 undef) (x):=hdep 0 _ 18 rfl (by kernel_rfl) rfl;have t20:ZIs W (A.tmps.getD 20 undef) ((((Nat.gcd x.natAbs y.natAbs):Nat):Int)):=hdep 2 _ 20 rfl (by kernel_rfl) rfl;refine aat (w':=W) (f:=116) (xs:= #[A.tmps.getD 18 undef,A.tmps.getD 20 undef]) (by simp[go_sem,Act.eval]) ?_;refine (agq x (Nat.gcd x.natAbs y.natAbs) _ _ _ t18 t20 HGP.out HxD.out HXL.out).mono ?_;rintro e w1 ⟨r,rfl,hr,hg1⟩;exact⟨r,rfl,aaX hg1,hJ.gr hg1 _ _ _ (by simp),hr⟩
    ·have t21:T3 (x/(((Nat.gcd x.natAbs y.natAbs):Nat):Int)) W (A.tmps.getD 21 undef):=hdep 3 _ 21 rfl (by kernel_rfl) rfl;refine aag (v:=A.tmps.getD 21 undef) (w':=W) ?_ ⟨aaR.refl _,hJ.same _ _ _ (by simp),t21⟩;simp[go_sem,Act.eval]
    ·have t17:T3 (x/(((Nat.gcd x.natAbs y.natAbs):Nat):Int)) W (A.tmps.getD 17 undef):=hdep 4 _ 17 rfl (by kernel_rfl) rfl;obtain⟨e0,e1,e2,q17,qh⟩:=t17;refine aag (v:=e0) (w':=W) ?_ ⟨aaR.refl _,hJ.same _ _ _ (by simp),qh⟩;simp[go_sem,Act.eval,q17]
    ·have t17:T3 (x/(((Nat.gcd x.natAbs y.natAbs):Nat):Int)) W (A.tmps.getD 17 undef):=hdep 4 _ 17 rfl (by kernel_rfl) rfl;obtain⟨e0,e1,e2,q17,qh⟩:=t17;refine aag (v:=e1) (w':=W) ?_ ⟨aaR.refl _,hJ.same _ _ _ (by simp),trivial⟩;simp[go_sem,Act.eval,q17]
    ·have t17:T3 (x/(((Nat.gcd x.natAbs y.natAbs):Nat):Int)) W (A.tmps.getD 17 undef):=hdep 4 _ 17 rfl (by kernel_rfl) rfl;obtain⟨e0,e1,e2,q17,qh⟩:=t17;refine aag (v:=e2) (w':=W) ?_ ⟨aaR.refl _,hJ.same _ _ _ (by simp),trivial⟩;simp[go_sem,Act.eval,q17]
    ·have t22:ZIs W (A.tmps.getD 22 undef) (x/(((Nat.gcd x.natAbs y.natAbs):Nat):Int)):=hdep 5 _ 22 rfl (by kernel_rfl) rfl;obtain⟨g9,cs9,hp9,hb9,hk9⟩:=hJ.ahead (t0:=tgZ 2 none 8 (some x) (x/(((Nat.gcd x.natAbs y.natAbs):Nat):Int))) (by simp) (λj hj=>by cases hj) hf;obtain⟨⟨y0,y1,rfl⟩,_⟩:=hk9;obtain⟨a8,n8,b8,e8⟩:=t22.parts;have hv8:=t22;rw[e8] at hv8;obtain⟨c0,c1,f0,f1,l0⟩:=abV hb9;obtain⟨k1,k2,k3⟩:=ab4 (T:=37) hb9 (by decide) (.slice a8 n8 n8) (.bool b8);refine abp ?_ ⟨k2,hJ.put 8 undef (by simp) (λj hj=>by cases hj) rfl hp9 k1 k2 k3 (aea (hv8.keep k2)) (by simp) (by simp),trivial⟩;simp[go_sem,Act.eval,hp9,e8,c0,c1,f0,f1]
   ·intro vs4 W4 hJ4 hs4;obtain⟨gA,csA,pA,_,bA,kA,_⟩:=hJ4.at' (tgZ 2 none 8 (some x) (x/(((Nat.gcd x.natAbs y.natAbs):Nat):Int))) (by simp) (λj hj=>by cases hj);have eA:gA=w.heap.size:=adR (by simpa[aaK,Act.put] using pA);subst eA;have kA':ZC W4 csA (x/(((Nat.gcd x.natAbs y.natAbs):Nat):Int)):=kA;obtain⟨a4,n4,b4,rfl⟩:=abo kA';have HU1:Hid (aak 37 W4 (w.heap.size) [.slice a4 n4 n4,.bool b4]):=bA;have HU2:Hid (aak 37 W4 (w.heap.size+1) [.slice c m m,.bool d]):=hJ4.kept (37,(w.heap.size+1),[.slice c m m,.bool d]) (by simp);have HU3:Hid (aak 39 W4 (w.heap.size+1+1) [.slice none 0 0,.bool false,.slice none 0 0,.bool false]):=hJ4.kept (39,(w.heap.size+1+1),[.slice none 0 0,.bool false,.slice none 0 0,.bool false]) (by simp);have HU5:Hid (aak 35 W4 g5 [.slice ga gn gn]):=hJ4.kept (35,g5,[.slice ga gn gn]) (by simp);have HUX:Hid (ZIs W4 (.agg #[.slice a4 n4 n4,.bool b4]) (x/(((Nat.gcd x.natAbs y.natAbs):Nat):Int))):=⟨_,rfl,kA'⟩
    have HUY:=Lib.hid (HSY.out.keep hJ4.k);have HUG:=Lib.hid (aaD.keep HxG.out hJ4.k);have HUB:Hid (Below w.heap.size w W4):=hJ4.b;clear pA bA kA kA' hJ4 hs4 HS1 HS2 HS3 HS5 HSX HSY HSB HxG;have HS1:=HU1;have HS2:=HU2;have HS3:=HU3;have HS5:=HU5;have HSX:=HUX;have HSY:=HUY;have HSB:=HUB;have HxG:=HUG;clear HU1 HU2 HU3 HU5 HUX HUY HUB HUG;simp only[aaK,List.foldl_cons,List.foldl_nil,Act.put,List.setIfInBounds_toArray,List.set_cons_succ,List.set_cons_zero];go_wp2_with fail
    refine abq (s:=fun | 0=> .z (y) | 1=> .n ((Nat.gcd x.natAbs y.natAbs)) | 2=> .z ((((Nat.gcd x.natAbs y.natAbs):Nat):Int)) | 3=> .p (T3 (y/(((Nat.gcd x.natAbs y.natAbs):Nat):Int))) T3.keep | 4=> .p (T3 (y/(((Nat.gcd x.natAbs y.natAbs):Nat):Int))) T3.keep | 5=> .z (y/(((Nat.gcd x.natAbs y.natAbs):Nat):Int)) | 6=> .any | 7=> .any | 8=> .any | _=> .any) (J:=MM w.heap.size w W4 [(37,w.heap.size,[.slice a4 n4 n4,.bool b4]),(39,(w.heap.size+1+1),[.slice none 0 0,.bool false,.slice none 0 0,.bool false]),(35,g5,[.slice ga gn gn])] [tgZ 3 none 8 (some y) (y/(((Nat.gcd x.natAbs y.natAbs):Nat):Int))]) (by kernel_rfl) (by kernel_rfl) rfl (λf g a w hn h=>MM.ext (n:=9) (by simp) hn h) ?_ ?_ ?_
    ·refine⟨abd HSB.out rfl rfl rfl rfl,λ_ _ h=>h,HSB.out.size,(by intro q hq;simp only[List.mem_cons,List.not_mem_nil,or_false] at hq;rcases hq with rfl | rfl | rfl;exact HS1.out;exact HS3.out;exact HS5.out),?_,(by intro t u h1 h2 hd;simp only[List.mem_singleton] at h1 h2;subst h1;subst h2;exact absurd rfl hd)⟩;intro t ht h;simp only[List.mem_cons,List.not_mem_nil,or_false] at ht;subst ht;exact⟨w.heap.size+1,_,rfl,by omega,HS2.out,⟨⟨_,_,rfl⟩,λp hp=>by cases hp;exact aea HSY.out⟩,by intro q hq;simp only[List.mem_cons,List.not_mem_nil,or_false] at hq;rcases hq with rfl | rfl | rfl<;>simp<;>omega⟩
    ·intro i o f A W hi hJ hf hdep hdn hcl hfr hsz;rcases i with _ | _ | _ | _ | _ | _ | _ | _ | _ | i
     all_goals (simp at hi)
     all_goals (try subst hi)
     ·have hst:f 8=false:=by
       cases h:f 8 with
       |false=>rfl
       |true=>rw[hcl 8 _ 0 rfl h (by kernel_rfl)] at hf;cases hf
      obtain⟨g9,cs9,hp9,hb9,hk9⟩:=hJ.ahead (t0:=tgZ 3 none 8 (some y) (y/(((Nat.gcd x.natAbs y.natAbs):Nat):Int))) (by simp) (λj hj=>by cases hj) hst;obtain⟨a9,n9,b9,rfl⟩:=abo (hk9.2 _ rfl);obtain⟨c0,c1,f0,f1,l0⟩:=abV hb9;refine aag (v:= .agg #[.slice a9 n9 n9,.bool b9]) (w':=W) ?_ ⟨aaR.refl _,hJ.same _ _ _ (by simp),⟨_,rfl,hk9.2 _ rfl⟩⟩;simp[go_sem,Act.eval,hp9,c0,c1]
     ·have t5:=hfr 5 (by simp);have hb2:aak 35 W g5 [.slice ga gn gn]:=hJ.kept (35,g5,[.slice ga gn gn]) (by simp);have x20:W.cell? ⟨g5,0,none⟩=some (.slice ga gn gn):=by rw[hb2.cell 0];rfl
      refine aag (v:= .agg #[.slice ga gn gn]) (w':=W) ?_ ⟨aaR.refl _,hJ.same _ _ _ (by simp),HxG.out.keep hJ.k⟩;simp[go_sem,Act.eval,t5,x20]
     ·have t27:aaD W (A.tmps.getD 27 undef) ((Nat.gcd x.natAbs y.natAbs)):=hdep 1 _ 27 rfl (by kernel_rfl) rfl;refine aat (w':=W) (f:=117) (xs:= #[A.tmps.getD 27 undef]) (by simp[go_sem,Act.eval]) ?_;refine (aoy (Nat.gcd x.natAbs y.natAbs) _ _ t27 HGL.out).mono ?_;rintro e w1 ⟨r,rfl,hr,hg1⟩;exact⟨r,rfl,Gr.keep hg1,hJ.gr hg1.b _ _ _ (by simp),hr⟩
     ·have t26:ZIs W (A.tmps.getD 26 undef) (y):=hdep 0 _ 26 rfl (by kernel_rfl) rfl;have t28:ZIs W (A.tmps.getD 28 undef) ((((Nat.gcd x.natAbs y.natAbs):Nat):Int)):=hdep 2 _ 28 rfl (by kernel_rfl) rfl;refine aat (w':=W) (f:=116) (xs:= #[A.tmps.getD 26 undef,A.tmps.getD 28 undef]) (by simp[go_sem,Act.eval]) ?_;refine (agq y (Nat.gcd x.natAbs y.natAbs) _ _ _ t26 t28 HGP.out HyD.out HYL.out).mono ?_;rintro e w1 ⟨r,rfl,hr,hg1⟩;exact⟨r,rfl,aaX hg1,hJ.gr hg1 _ _ _ (by simp),hr⟩
     ·have t29:T3 (y/(((Nat.gcd x.natAbs y.natAbs):Nat):Int)) W (A.tmps.getD 29 undef):=hdep 3 _ 29 rfl (by kernel_rfl) rfl;refine aag (v:=A.tmps.getD 29 undef) (w':=W) ?_ ⟨aaR.refl _,hJ.same _ _ _ (by simp),t29⟩;simp[go_sem,Act.eval]
     ·have t25:T3 (y/(((Nat.gcd x.natAbs y.natAbs):Nat):Int)) W (A.tmps.getD 25 undef):=hdep 4 _ 25 rfl (by kernel_rfl) rfl;obtain⟨e0,e1,e2,q25,qh⟩:=t25;refine aag (v:=e0) (w':=W) ?_ ⟨aaR.refl _,hJ.same _ _ _ (by simp),qh⟩;simp[go_sem,Act.eval,q25]
     ·have t25:T3 (y/(((Nat.gcd x.natAbs y.natAbs):Nat):Int)) W (A.tmps.getD 25 undef):=hdep 4 _ 25 rfl (by kernel_rfl) rfl;obtain⟨e0,e1,e2,q25,qh⟩:=t25;refine aag (v:=e1) (w':=W) ?_ ⟨aaR.refl _,hJ.same _ _ _ (by simp),trivial⟩;simp[go_sem,Act.eval,q25]
     ·have t25:T3 (y/(((Nat.gcd x.natAbs y.natAbs):Nat):Int)) W (A.tmps.getD 25 undef):=hdep 4 _ 25 rfl (by kernel_rfl) rfl;obtain⟨e0,e1,e2,q25,qh⟩:=t25;refine aag (v:=e2) (w':=W) ?_ ⟨aaR.refl _,hJ.same _ _ _ (by simp),trivial⟩;simp[go_sem,Act.eval,q25]
     ·have t30:ZIs W (A.tmps.getD 30 undef) (y/(((Nat.gcd x.natAbs y.natAbs):Nat):Int)):=hdep 5 _ 30 rfl (by kernel_rfl) rfl;obtain⟨g9,cs9,hp9,hb9,hk9⟩:=hJ.ahead (t0:=tgZ 3 none 8 (some y) (y/(((Nat.gcd x.natAbs y.natAbs):Nat):Int))) (by simp) (λj hj=>by cases hj) hf;obtain⟨⟨y0,y1,rfl⟩,_⟩:=hk9;obtain⟨a8,n8,b8,e8⟩:=t30.parts;have hv8:=t30;rw[e8] at hv8;obtain⟨c0,c1,f0,f1,l0⟩:=abV hb9;obtain⟨k1,k2,k3⟩:=ab4 (T:=37) hb9 (by decide) (.slice a8 n8 n8) (.bool b8);refine abp ?_ ⟨k2,hJ.put 8 undef (by simp) (λj hj=>by cases hj) rfl hp9 k1 k2 k3 (aea (hv8.keep k2)) (by simp) (by simp),trivial⟩;simp[go_sem,Act.eval,hp9,e8,c0,c1,f0,f1]
    ·intro vs5 W5 hJ5 hs5;obtain⟨gA,csA,pA,_,bA,kA,_⟩:=hJ5.at' (tgZ 3 none 8 (some y) (y/(((Nat.gcd x.natAbs y.natAbs):Nat):Int))) (by simp) (λj hj=>by cases hj);have eA:gA=w.heap.size+1:=adR (by simpa[aaK,Act.put] using pA);subst eA;have kA':ZC W5 csA (y/(((Nat.gcd x.natAbs y.natAbs):Nat):Int)):=kA;obtain⟨a5,n5,b5,rfl⟩:=abo kA';have HU1:Hid (aak 37 W5 (w.heap.size+1) [.slice a5 n5 n5,.bool b5]):=bA;have HU2:Hid (aak 37 W5 w.heap.size [.slice a4 n4 n4,.bool b4]):=hJ5.kept (37,w.heap.size,[.slice a4 n4 n4,.bool b4]) (by simp);have HU3:Hid (aak 39 W5 (w.heap.size+1+1) [.slice none 0 0,.bool false,.slice none 0 0,.bool false]):=hJ5.kept (39,(w.heap.size+1+1),[.slice none 0 0,.bool false,.slice none 0 0,.bool false]) (by simp);have HU5:Hid (aak 35 W5 g5 [.slice ga gn gn]):=hJ5.kept (35,g5,[.slice ga gn gn]) (by simp);have HUX:Hid (ZIs W5 (.agg #[.slice a5 n5 n5,.bool b5]) (y/(((Nat.gcd x.natAbs y.natAbs):Nat):Int))):=⟨_,rfl,kA'⟩
     have HUY:=Lib.hid (HSX.out.keep hJ5.k);have HUG:=Lib.hid (aaD.keep HxG.out hJ5.k);have HUB:Hid (Below w.heap.size w W5):=hJ5.b;clear pA bA kA kA' hJ5 hs5 HS1 HS2 HS3 HS5 HSX HSY HSB HxG;have HS1:=HU2;have HS2:=HU1;have HS3:=HU3;have HSX:=HUY;have HSY:=HUX;have HSB:=HUB;clear HU1 HU2 HU3 HU5 HUX HUY HUB HUG;simp only[aaK,List.foldl_cons,List.foldl_nil,Act.put,List.setIfInBounds_toArray,List.set_cons_succ,List.set_cons_zero];have HLX:Hid ((limbs (x/(((Nat.gcd x.natAbs y.natAbs):Nat):Int)).natAbs).length<=1000000):=Nat.le_trans ahx (by have:=HXL.out;omega);have HLY:Hid ((limbs (y/(((Nat.gcd x.natAbs y.natAbs):Nat):Int)).natAbs).length<=1000000):=Nat.le_trans ahx (by have:=HYL.out;omega);obtain⟨d0,d1,d2,d3,d4⟩:=abV HS2.out;go_wp2_with fail
     refine (aej (y/(((Nat.gcd x.natAbs y.natAbs):Nat):Int)) _ _ HSY.out HLY.out).mono ?_;rintro e w9 ⟨rfl,hg9⟩;have HT1:=Lib.hid (HS1.out.still (Gr.grown hg9));have HT2:=Lib.hid (HS2.out.still (Gr.grown hg9));have HT3:=Lib.hid (HS3.out.still (Gr.grown hg9));have HTX:=Lib.hid (Gr.zIs hg9 HSX.out);have HTY:=Lib.hid (Gr.zIs hg9 HSY.out);have HTB:Hid (Below w.heap.size w w9):=HSB.out.trans (hg9.b.mono HSB.out.size);clear hg9 d0 d1 d2 d3 d4 HS1 HS2 HS3 HSX HSY HSB;by_cases hn:(y/(((Nat.gcd x.natAbs y.natAbs):Nat):Int))<0
     ·rw[show abT (y/(((Nat.gcd x.natAbs y.natAbs):Nat):Int))= -1 from if_pos hn];go_wp2_with fail
      refine abq (s:=fun | 0=> .z ((x/(((Nat.gcd x.natAbs y.natAbs):Nat):Int))) | 1=> .z (-(x/(((Nat.gcd x.natAbs y.natAbs):Nat):Int))) | 2=> .z ((y/(((Nat.gcd x.natAbs y.natAbs):Nat):Int))) | 3=> .z (-(y/(((Nat.gcd x.natAbs y.natAbs):Nat):Int))) | 4=> .any | 5=> .any | _=> .any) (J:=MM w.heap.size w w9 [(39,(w.heap.size+1+1),[.slice none 0 0,.bool false,.slice none 0 0,.bool false])] [tgZ 2 none 4 (some (x/(((Nat.gcd x.natAbs y.natAbs):Nat):Int))) (-(x/(((Nat.gcd x.natAbs y.natAbs):Nat):Int))),tgZ 3 none 5 (some (y/(((Nat.gcd x.natAbs y.natAbs):Nat):Int))) (-(y/(((Nat.gcd x.natAbs y.natAbs):Nat):Int)))]) (by kernel_rfl) (by kernel_rfl) rfl (λf g a w hn h=>MM.ext (n:=6) (by simp) hn h) ?_ ?_ ?_
      ·refine⟨abd HTB.out rfl rfl rfl rfl,λ_ _ h=>h,HTB.out.size,(by intro q hq;simp only[List.mem_cons,List.not_mem_nil,or_false] at hq;subst hq;exact HT3.out),?_,?_⟩
       ·intro t ht h;simp only[List.mem_cons,List.not_mem_nil,or_false] at ht;rcases ht with rfl | rfl
        ·exact⟨w.heap.size,_,rfl,Nat.le_refl _,HT1.out,⟨⟨_,_,rfl⟩,λp hp=>by cases hp;exact aea HTX.out⟩,by intro q hq;simp only[List.mem_singleton] at hq;subst hq;simp;omega⟩
        ·exact⟨w.heap.size+1,_,rfl,by omega,HT2.out,⟨⟨_,_,rfl⟩,λp hp=>by cases hp;exact aea HTY.out⟩,by intro q hq;simp only[List.mem_singleton] at hq;subst hq;simp⟩
       ·intro t u h1 h2 hd _ _;simp only[List.mem_cons,List.not_mem_nil,or_false] at h1 h2;rcases h1 with rfl | rfl<;>rcases h2 with rfl | rfl
        ·exact absurd rfl hd
        ·simp
        ·simp
        ·exact absurd rfl hd
      ·intro i o f A W hi hJ hf hdep hdn hcl hfr hsz;rcases i with _ | _ | _ | _ | _ | _ | i
       all_goals (simp at hi)
       all_goals (try subst hi)
       ·have hst:f 4=false:=by
         cases h:f 4 with
         |false=>rfl
         |true=>rw[hcl 4 _ 0 rfl h (by kernel_rfl)] at hf;cases hf
        obtain⟨g9,cs9,hp9,hb9,hk9⟩:=hJ.ahead (t0:=tgZ 2 none 4 (some (x/(((Nat.gcd x.natAbs y.natAbs):Nat):Int))) (-(x/(((Nat.gcd x.natAbs y.natAbs):Nat):Int)))) (by simp) (λj hj=>by cases hj) hst;obtain⟨a9,n9,b9,rfl⟩:=abo (hk9.2 _ rfl);obtain⟨c0,c1,f0,f1,l0⟩:=abV hb9;refine aag (v:= .agg #[.slice a9 n9 n9,.bool b9]) (w':=W) ?_ ⟨aaR.refl _,hJ.same _ _ _ (by simp),⟨_,rfl,hk9.2 _ rfl⟩⟩;simp[go_sem,Act.eval,hp9,c0,c1]
       ·have t36:ZIs W (A.tmps.getD 36 undef) ((x/(((Nat.gcd x.natAbs y.natAbs):Nat):Int))):=hdep 0 _ 36 rfl (by kernel_rfl) rfl;refine aat (w':=W) (f:=118) (xs:= #[A.tmps.getD 36 undef]) (by simp[go_sem,Act.eval]) ?_;refine (afM (x/(((Nat.gcd x.natAbs y.natAbs):Nat):Int)) _ _ t36 HLX.out).mono ?_;rintro e w1 ⟨r,rfl,hr,hg1⟩;exact⟨r,rfl,Gr.keep hg1,hJ.gr hg1.b _ _ _ (by simp),hr⟩
       ·have hst:f 5=false:=by
         cases h:f 5 with
         |false=>rfl
         |true=>rw[hcl 5 _ 2 rfl h (by kernel_rfl)] at hf;cases hf
        obtain⟨g9,cs9,hp9,hb9,hk9⟩:=hJ.ahead (t0:=tgZ 3 none 5 (some (y/(((Nat.gcd x.natAbs y.natAbs):Nat):Int))) (-(y/(((Nat.gcd x.natAbs y.natAbs):Nat):Int)))) (by simp) (λj hj=>by cases hj) hst;obtain⟨a9,n9,b9,rfl⟩:=abo (hk9.2 _ rfl);obtain⟨c0,c1,f0,f1,l0⟩:=abV hb9;refine aag (v:= .agg #[.slice a9 n9 n9,.bool b9]) (w':=W) ?_ ⟨aaR.refl _,hJ.same _ _ _ (by simp),⟨_,rfl,hk9.2 _ rfl⟩⟩;simp[go_sem,Act.eval,hp9,c0,c1]
       ·have t38:ZIs W (A.tmps.getD 38 undef) ((y/(((Nat.gcd x.natAbs y.natAbs):Nat):Int))):=hdep 2 _ 38 rfl (by kernel_rfl) rfl;refine aat (w':=W) (f:=118) (xs:= #[A.tmps.getD 38 undef]) (by simp[go_sem,Act.eval]) ?_;refine (afM (y/(((Nat.gcd x.natAbs y.natAbs):Nat):Int)) _ _ t38 HLY.out).mono ?_;rintro e w1 ⟨r,rfl,hr,hg1⟩;exact⟨r,rfl,Gr.keep hg1,hJ.gr hg1.b _ _ _ (by simp),hr⟩
       ·have t37:ZIs W (A.tmps.getD 37 undef) (-(x/(((Nat.gcd x.natAbs y.natAbs):Nat):Int))):=hdep 1 _ 37 rfl (by kernel_rfl) rfl;obtain⟨g9,cs9,hp9,hb9,hk9⟩:=hJ.ahead (t0:=tgZ 2 none 4 (some (x/(((Nat.gcd x.natAbs y.natAbs):Nat):Int))) (-(x/(((Nat.gcd x.natAbs y.natAbs):Nat):Int)))) (by simp) (λj hj=>by cases hj) hf;obtain⟨⟨y0,y1,rfl⟩,_⟩:=hk9;obtain⟨a8,n8,b8,e8⟩:=t37.parts;have hv8:=t37;rw[e8] at hv8;obtain⟨c0,c1,f0,f1,l0⟩:=abV hb9;obtain⟨k1,k2,k3⟩:=ab4 (T:=37) hb9 (by decide) (.slice a8 n8 n8) (.bool b8);refine abp ?_ ⟨k2,hJ.put 4 undef (by simp) (λj hj=>by cases hj) rfl hp9 k1 k2 k3 (aea (hv8.keep k2)) (by simp) (by simp),trivial⟩;simp[go_sem,Act.eval,hp9,e8,c0,c1,f0,f1]
       ·have t39:ZIs W (A.tmps.getD 39 undef) (-(y/(((Nat.gcd x.natAbs y.natAbs):Nat):Int))):=hdep 3 _ 39 rfl (by kernel_rfl) rfl;obtain⟨g9,cs9,hp9,hb9,hk9⟩:=hJ.ahead (t0:=tgZ 3 none 5 (some (y/(((Nat.gcd x.natAbs y.natAbs):Nat):Int))) (-(y/(((Nat.gcd x.natAbs y.natAbs):Nat):Int)))) (by simp) (λj hj=>by cases hj) hf;obtain⟨⟨y0,y1,rfl⟩,_⟩:=hk9;obtain⟨a8,n8,b8,e8⟩:=t39.parts;have hv8:=t39;rw[e8] at hv8;obtain⟨c0,c1,f0,f1,l0⟩:=abV hb9;obtain⟨k1,k2,k3⟩:=ab4 (T:=37) hb9 (by decide) (.slice a8 n8 n8) (.bool b8);refine abp ?_ ⟨k2,hJ.put 5 undef (by simp) (λj hj=>by cases hj) rfl hp9 k1 k2 k3 (aea (hv8.keep k2)) (by simp) (by simp),trivial⟩;simp[go_sem,Act.eval,hp9,e8,c0,c1,f0,f1]
      ·intro vs7b W7b hJ7b hs7b;obtain⟨gA,csA,pA,_,bA,kA,_⟩:=hJ7b.at' (tgZ 2 none 4 (some (x/(((Nat.gcd x.natAbs y.natAbs):Nat):Int))) (-(x/(((Nat.gcd x.natAbs y.natAbs):Nat):Int)))) (by simp) (λj hj=>by cases hj);obtain⟨gB,csB,pB,_,bB,kB,_⟩:=hJ7b.at' (tgZ 3 none 5 (some (y/(((Nat.gcd x.natAbs y.natAbs):Nat):Int))) (-(y/(((Nat.gcd x.natAbs y.natAbs):Nat):Int)))) (by simp) (λj hj=>by cases hj);have eA:gA=w.heap.size:=adR (by simpa[aaK,Act.put] using pA);have eB:gB=w.heap.size+1:=adR (by simpa[aaK,Act.put] using pB);subst eA;subst eB;have kA':ZC W7b csA (-(x/(((Nat.gcd x.natAbs y.natAbs):Nat):Int))):=kA;have kB':ZC W7b csB (-(y/(((Nat.gcd x.natAbs y.natAbs):Nat):Int))):=kB;obtain⟨aA,nA,bbA,rfl⟩:=abo kA';obtain⟨aB,nB,bbB,rfl⟩:=abo kB';have HU1:Hid (aak 37 W7b w.heap.size [.slice aA nA nA,.bool bbA]):=bA;have HU2:Hid (aak 37 W7b (w.heap.size+1) [.slice aB nB nB,.bool bbB]):=bB;have HU3:Hid (aak 39 W7b (w.heap.size+1+1) [.slice none 0 0,.bool false,.slice none 0 0,.bool false]):=hJ7b.kept (39,(w.heap.size+1+1),[.slice none 0 0,.bool false,.slice none 0 0,.bool false]) (by simp);have HUX:Hid (ZIs W7b (.agg #[.slice aA nA nA,.bool bbA]) (-(x/(((Nat.gcd x.natAbs y.natAbs):Nat):Int)))):=⟨_,rfl,kA'⟩
       have HUY:Hid (ZIs W7b (.agg #[.slice aB nB nB,.bool bbB]) (-(y/(((Nat.gcd x.natAbs y.natAbs):Nat):Int)))):=⟨_,rfl,kB'⟩
       have HUB:Hid (Below w.heap.size w W7b):=hJ7b.b;clear pA pB bA bB kA kB kA' kB' hJ7b hs7b HT1 HT2 HT3 HTX HTY HTB;have HT1:=HU1;have HT2:=HU2;have HT3:=HU3;have HTB:=HUB;clear HU1 HU2 HU3 HUB;simp only[aaK,List.foldl_cons,List.foldl_nil,Act.put,List.setIfInBounds_toArray,List.set_cons_succ,List.set_cons_zero];obtain⟨c0,c1,c2,c3,c4⟩:=abV HT1.out;obtain⟨d0,d1,d2,d3,d4⟩:=abV HT2.out;obtain⟨i0,i1,i2,i3⟩:=aie HT3.out;obtain⟨j0,j1,j2,j3,j4⟩:=afA HT3.out;have hnum:=(acH x y (Nat.gcd x.natAbs y.natAbs) rfl HD0.out).1;have hden:=(acH x y (Nat.gcd x.natAbs y.natAbs) rfl HD0.out).2;rw[if_pos hn] at hnum hden;go_wp2_with fail
       obtain⟨s1,s2⟩:=ae0 (avX (q:=Rat.divInt x y) (by rw[hnum];exact HUX.out) (by rw[hden];exact HUY.out)) HT3.out (by decide);exact ahm rfl rfl rfl s1 ⟨_,rfl,s2,aci HTB.out (by omega) _ _ _ _⟩
     ·have hsg:¬ abT (y/(((Nat.gcd x.natAbs y.natAbs):Nat):Int))<0:=by unfold abT;rw[if_neg hn];split<;>omega
      obtain⟨c0,c1,c2,c3,c4⟩:=abV HT1.out;obtain⟨d0,d1,d2,d3,d4⟩:=abV HT2.out;obtain⟨i0,i1,i2,i3⟩:=aie HT3.out;obtain⟨j0,j1,j2,j3,j4⟩:=afA HT3.out;have hnum:=(acH x y (Nat.gcd x.natAbs y.natAbs) rfl HD0.out).1;have hden:=(acH x y (Nat.gcd x.natAbs y.natAbs) rfl HD0.out).2;rw[if_neg hn] at hnum hden;go_wp2_with fail
      obtain⟨s1,s2⟩:=ae0 (avX (q:=Rat.divInt x y) (by rw[hnum];exact HTX.out) (by rw[hden];exact HTY.out)) HT3.out (by decide);exact ahm rfl rfl rfl s1 ⟨_,rfl,s2,aci HTB.out (by omega) _ _ _ _⟩
end Go.Proofs.YtcmplpkmfbhpdaaGreat
namespace Go.Proofs.YtcmplpkmfbhpdaaGreat
open Go Go.RowKit
def acr (q:Rat):Nat:=(limbs q.num.natAbs).length+(limbs q.den).length
theorem ag4 {x y:Int} {k:Nat} (hx:(limbs x.natAbs).length<=k) (hy:(limbs y.natAbs).length<=k):(limbs (x+y).natAbs).length<=k+1:=by
 have h1:=val_lt (limbs_limb x.natAbs);have h2:=val_lt (limbs_limb y.natAbs);rw[val_limbs] at h1 h2;rw[limbs_len,Nat.pow_succ];have e1:=Nat.pow_le_pow_right (show 0<4294967296 by omega) hx;have e2:=Nat.pow_le_pow_right (show 0<4294967296 by omega) hy;have:=Int.natAbs_add_le x y;omega
section
variable (w:World) (a:Option Addr) (n:Nat) (b:Bool) (c:Option Addr) (m:Nat) (d:Bool) (a':Option Addr) (n':Nat) (b':Bool) (c':Option Addr) (m':Nat) (d':Bool)
abbrev r3W:World:=((w.alloc (.cells #[.slice a n n,.bool b,.slice c m m,.bool d] 39)).alloc (.cells #[.slice a' n' n',.bool b',.slice c' m' m',.bool d'] 39)).alloc (.cells #[.slice none 0 0,.bool false,.slice none 0 0,.bool false] 39)
theorem ati:aak 39 (r3W w a n b c m d a' n' b' c' m' d') w.heap.size [.slice a n n,.bool b,.slice c m m,.bool d]:=((aak.new _ w [.slice a n n,.bool b,.slice c m m,.bool d]).still (aab _ _ none)).still (aab _ _ none)
theorem ath:aak 39 (r3W w a n b c m d a' n' b' c' m' d') (w.heap.size+1) [.slice a' n' n',.bool b',.slice c' m' m',.bool d']:=(aaN (cs:=[.slice a' n' n',.bool b',.slice c' m' m',.bool d']) (by simp)).still (aab _ _ none)
theorem atg:aak 39 (r3W w a n b c m d a' n' b' c' m' d') (w.heap.size+1+1) [.slice none 0 0,.bool false,.slice none 0 0,.bool false]:=aaN (cs:=[.slice none 0 0,.bool false,.slice none 0 0,.bool false]) (by simp)
theorem atf:Own w.heap.size w (r3W w a n b c m d a' n' b' c' m' d'):=(((aap _ _).alloc (by simp) _).alloc (by simp;omega) _)
end
set_option maxHeartbeats 8000000 in
set_option maxRecDepth 100000 in
theorem aoD (q p:Rat) (v u:Value) (w:World) (hv:RIs w v q) (hu:RIs w u p) (hq:acr q<=100000) (hp:acr p<=100000) :
  Calls Tryz.prog 17 #[v,u] w λe w'=>∃ r,e= .returned r/\RIs w' r (q+p)/\Below w.heap.size w w':=by
 obtain⟨a,n,b,c,m,d,rfl⟩:=hv.parts;obtain⟨a',n',b',c',m',d',rfl⟩:=hu.parts;have HB1:Hid (aak 39 (r3W w a n b c m d a' n' b' c' m' d').drew w.heap.size [.slice a n n,.bool b,.slice c m m,.bool d]):=ati w a n b c m d a' n' b' c' m' d';have HB2:Hid (aak 39 (r3W w a n b c m d a' n' b' c' m' d').drew (w.heap.size+1) [.slice a' n' n',.bool b',.slice c' m' m',.bool d']):=ath w a n b c m d a' n' b' c' m' d';have HB3:Hid (aak 39 (r3W w a n b c m d a' n' b' c' m' d').drew (w.heap.size+1+1) [.slice none 0 0,.bool false,.slice none 0 0,.bool false]):=atg w a n b c m d a' n' b' c' m' d';have HG:Hid (Own w.heap.size w (r3W w a n b c m d a' n' b' c' m' d').drew):=(atf w a n b c m d a' n' b' c' m' d').drew;have HV:=Lib.hid hv;have HU:=Lib.hid hu;have HQ:=Lib.hid hq;have HP:=Lib.hid hp;have HL1:Hid ((limbs ((q.num)*(p.den:Int)).natAbs).length<=900000):=by show _<=_;have h:=aaM (q.num) (p.den:Int);(try simp only[Int.natAbs_natCast] at h);unfold acr at *;omega
 have HL2:Hid ((limbs ((p.num)*(q.den:Int)).natAbs).length<=900000):=by show _<=_;have h:=aaM (p.num) (q.den:Int);(try simp only[Int.natAbs_natCast] at h);unfold acr at *;omega
 have HL4:Hid ((limbs ((q.den:Int)*(p.den:Int)).natAbs).length<=800000):=by show _<=_;have h:=aaM (q.den:Int) (p.den:Int);(try simp only[Int.natAbs_natCast] at h);unfold acr at *;omega
 have HL3:Hid ((limbs ((q.num)*(p.den:Int)+(p.num)*(q.den:Int)).natAbs).length<=800000):=by
  show _<=_;have h1:=aaM (q.num) (p.den:Int);have h2:=aaM (p.num) (q.den:Int);simp only[Int.natAbs_natCast] at h1 h2;unfold acr at *;have h3:=ag4 (x:=(q.num)*(p.den:Int)) (y:=(p.num)*(q.den:Int)) (k:=300000) (by omega) (by omega);omega
 have HD:Hid ((q.den:Int)*(p.den:Int)≠0):=Int.mul_ne_zero (acN q) (acN p);clear hv hu hq hp;go_enter Tryz.func17,Tryz.ntmps17
 go_wp2_with fail
 refine abq (s:=fun | 0=> .is (.pointer (some ⟨w.heap.size,0,none⟩)) | 1=> .z (q.num) | 2=> .q (p) | 3=> .z ((p.den:Int)) | 4=> .z ((q.num)*(p.den:Int)) | 5=> .is (.pointer (some ⟨(w.heap.size+1),0,none⟩)) | 6=> .z (p.num) | 7=> .q (q) | 8=> .z ((q.den:Int)) | 9=> .z ((p.num)*(q.den:Int)) | 10=> .z ((q.num)*(p.den:Int)+(p.num)*(q.den:Int)) | 11=> .q (q) | 12=> .z ((q.den:Int)) | 13=> .q (p) | 14=> .z ((p.den:Int)) | 15=> .z ((q.den:Int)*(p.den:Int)) | 16=> .q (q+p) | 17=> .any | _=> .any) (J:=MM w.heap.size w w [(39,w.heap.size,[.slice a n n,.bool b,.slice c m m,.bool d]),(39,(w.heap.size+1),[.slice a' n' n',.bool b',.slice c' m' m',.bool d'])] [tgR 4 none 17 (q+p)]) (by kernel_rfl) (by kernel_rfl) rfl (λf g a w hn h=>MM.ext (n:=18) (by simp) hn h) ?_ ?_ ?_
 ·refine⟨HG.out.b,HG.out.b |> aaX,HG.out.size,(by intro q hq;simp only[List.mem_cons,List.not_mem_nil,or_false] at hq;rcases hq with rfl | rfl;exact HB1.out;exact HB2.out),?_,(by intro t u h1 h2 hd;simp only[List.mem_singleton] at h1 h2;subst h1;subst h2;exact absurd rfl hd)⟩;intro t ht h;simp only[List.mem_singleton] at ht;subst ht;exact⟨w.heap.size+1+1,_,rfl,by omega,HB3.out,⟨_,_,_,_,rfl⟩,by intro q hq;simp only[List.mem_cons,List.not_mem_nil,or_false] at hq;rcases hq with rfl | rfl<;>simp<;>omega⟩
 ·intro i o f A W hi hJ hf hdep hdn hcl hfr hsz;rcases i with _ | _ | _ | _ | _ | _ | _ | _ | _ | _ | _ | _ | _ | _ | _ | _ | _ | _ | i
  all_goals (simp at hi)
  all_goals (try subst hi)
  ·have t2:=hfr 2 (by simp);refine aag (v:= .pointer (some ⟨w.heap.size,0,none⟩)) (w':=W) ?_ ⟨aaR.refl _,hJ.same _ _ _ (by simp),rfl⟩;simp[go_sem,Act.eval,t2]
  ·have t5:A.tmps.getD 5 undef= .pointer (some ⟨w.heap.size,0,none⟩):=hdep 0 _ 5 rfl (by kernel_rfl) rfl;have hb0:aak 39 W w.heap.size [.slice a n n,.bool b,.slice c m m,.bool d]:=hJ.kept (39,w.heap.size,[.slice a n n,.bool b,.slice c m m,.bool d]) (by simp);have x00:W.cell? ⟨w.heap.size,0,none⟩=some (.slice a n n):=by rw[hb0.cell 0];rfl
   have x01:W.cell? ⟨w.heap.size,1,none⟩=some (.bool b):=by rw[hb0.cell 1];rfl
   have x02:W.cell? ⟨w.heap.size,2,none⟩=some (.slice c m m):=by rw[hb0.cell 2];rfl
   have x03:W.cell? ⟨w.heap.size,3,none⟩=some (.bool d):=by rw[hb0.cell 3];rfl
   refine aag (v:= .agg #[.slice a n n,.bool b]) (w':=W) ?_ ⟨aaR.refl _,hJ.same _ _ _ (by simp),(acl (RIs.keep HV.out hJ.k)).1⟩;simp[go_sem,Act.eval,t5,x00,x01]
  ·have t3:=hfr 3 (by simp);have hb1:aak 39 W (w.heap.size+1) [.slice a' n' n',.bool b',.slice c' m' m',.bool d']:=hJ.kept (39,(w.heap.size+1),[.slice a' n' n',.bool b',.slice c' m' m',.bool d']) (by simp);have x10:W.cell? ⟨(w.heap.size+1),0,none⟩=some (.slice a' n' n'):=by rw[hb1.cell 0];rfl
   have x11:W.cell? ⟨(w.heap.size+1),1,none⟩=some (.bool b'):=by rw[hb1.cell 1];rfl
   have x12:W.cell? ⟨(w.heap.size+1),2,none⟩=some (.slice c' m' m'):=by rw[hb1.cell 2];rfl
   have x13:W.cell? ⟨(w.heap.size+1),3,none⟩=some (.bool d'):=by rw[hb1.cell 3];rfl
   refine aag (v:= .agg #[.slice a' n' n',.bool b',.slice c' m' m',.bool d']) (w':=W) ?_ ⟨aaR.refl _,hJ.same _ _ _ (by simp),RIs.keep HU.out hJ.k⟩;simp[go_sem,Act.eval,t3,x10,x11,x12,x13]
  ·have t7:RIs W (A.tmps.getD 7 undef) (p):=hdep 2 _ 7 rfl (by kernel_rfl) rfl;refine aat (w':=W) (f:=61) (xs:= #[A.tmps.getD 7 undef]) (by simp[go_sem,Act.eval]) ?_;refine (acm p _ _ t7 (by have:=HP.out;unfold acr at this;omega)).mono ?_;rintro e w1 ⟨r,rfl,hr,hg1⟩;exact⟨r,rfl,Gr.keep hg1,hJ.gr hg1.b _ _ _ (by simp),hr⟩
  ·have t6:ZIs W (A.tmps.getD 6 undef) (q.num):=hdep 1 _ 6 rfl (by kernel_rfl) rfl;have t8:ZIs W (A.tmps.getD 8 undef) ((p.den:Int)):=hdep 3 _ 8 rfl (by kernel_rfl) rfl;refine aat (w':=W) (f:=60) (xs:= #[A.tmps.getD 6 undef,A.tmps.getD 8 undef]) (by simp[go_sem,Act.eval]) ?_;refine (acd (q.num) (p.den:Int) _ _ _ t6 t8 (by have:=HQ.out;unfold acr at this;omega) (by have:=HP.out;unfold acr at this;rw[Int.natAbs_natCast];omega)).mono ?_;rintro e w1 ⟨r,rfl,hr,hg1⟩;exact⟨r,rfl,Gr.keep hg1,hJ.gr hg1.b _ _ _ (by simp),hr⟩
  ·have t3:=hfr 3 (by simp);refine aag (v:= .pointer (some ⟨(w.heap.size+1),0,none⟩)) (w':=W) ?_ ⟨aaR.refl _,hJ.same _ _ _ (by simp),rfl⟩;simp[go_sem,Act.eval,t3]
  ·have t10:A.tmps.getD 10 undef= .pointer (some ⟨(w.heap.size+1),0,none⟩):=hdep 5 _ 10 rfl (by kernel_rfl) rfl;have hb1:aak 39 W (w.heap.size+1) [.slice a' n' n',.bool b',.slice c' m' m',.bool d']:=hJ.kept (39,(w.heap.size+1),[.slice a' n' n',.bool b',.slice c' m' m',.bool d']) (by simp);have x10:W.cell? ⟨(w.heap.size+1),0,none⟩=some (.slice a' n' n'):=by rw[hb1.cell 0];rfl
   have x11:W.cell? ⟨(w.heap.size+1),1,none⟩=some (.bool b'):=by rw[hb1.cell 1];rfl
   have x12:W.cell? ⟨(w.heap.size+1),2,none⟩=some (.slice c' m' m'):=by rw[hb1.cell 2];rfl
   have x13:W.cell? ⟨(w.heap.size+1),3,none⟩=some (.bool d'):=by rw[hb1.cell 3];rfl
   refine aag (v:= .agg #[.slice a' n' n',.bool b']) (w':=W) ?_ ⟨aaR.refl _,hJ.same _ _ _ (by simp),(acl (RIs.keep HU.out hJ.k)).1⟩;simp[go_sem,Act.eval,t10,x10,x11]
  ·have t2:=hfr 2 (by simp);have hb0:aak 39 W w.heap.size [.slice a n n,.bool b,.slice c m m,.bool d]:=hJ.kept (39,w.heap.size,[.slice a n n,.bool b,.slice c m m,.bool d]) (by simp);have x00:W.cell? ⟨w.heap.size,0,none⟩=some (.slice a n n):=by rw[hb0.cell 0];rfl
   have x01:W.cell? ⟨w.heap.size,1,none⟩=some (.bool b):=by rw[hb0.cell 1];rfl
   have x02:W.cell? ⟨w.heap.size,2,none⟩=some (.slice c m m):=by rw[hb0.cell 2];rfl
   have x03:W.cell? ⟨w.heap.size,3,none⟩=some (.bool d):=by rw[hb0.cell 3];rfl
   refine aag (v:= .agg #[.slice a n n,.bool b,.slice c m m,.bool d]) (w':=W) ?_ ⟨aaR.refl _,hJ.same _ _ _ (by simp),RIs.keep HV.out hJ.k⟩;simp[go_sem,Act.eval,t2,x00,x01,x02,x03]
  ·have t12:RIs W (A.tmps.getD 12 undef) (q):=hdep 7 _ 12 rfl (by kernel_rfl) rfl;refine aat (w':=W) (f:=61) (xs:= #[A.tmps.getD 12 undef]) (by simp[go_sem,Act.eval]) ?_;refine (acm q _ _ t12 (by have:=HQ.out;unfold acr at this;omega)).mono ?_;rintro e w1 ⟨r,rfl,hr,hg1⟩;exact⟨r,rfl,Gr.keep hg1,hJ.gr hg1.b _ _ _ (by simp),hr⟩
  ·have t11:ZIs W (A.tmps.getD 11 undef) (p.num):=hdep 6 _ 11 rfl (by kernel_rfl) rfl;have t13:ZIs W (A.tmps.getD 13 undef) ((q.den:Int)):=hdep 8 _ 13 rfl (by kernel_rfl) rfl;refine aat (w':=W) (f:=60) (xs:= #[A.tmps.getD 11 undef,A.tmps.getD 13 undef]) (by simp[go_sem,Act.eval]) ?_;refine (acd (p.num) (q.den:Int) _ _ _ t11 t13 (by have:=HP.out;unfold acr at this;omega) (by have:=HQ.out;unfold acr at this;rw[Int.natAbs_natCast];omega)).mono ?_;rintro e w1 ⟨r,rfl,hr,hg1⟩;exact⟨r,rfl,Gr.keep hg1,hJ.gr hg1.b _ _ _ (by simp),hr⟩
  ·have t9:ZIs W (A.tmps.getD 9 undef) ((q.num)*(p.den:Int)):=hdep 4 _ 9 rfl (by kernel_rfl) rfl;have t14:ZIs W (A.tmps.getD 14 undef) ((p.num)*(q.den:Int)):=hdep 9 _ 14 rfl (by kernel_rfl) rfl;refine aat (w':=W) (f:=62) (xs:= #[A.tmps.getD 9 undef,A.tmps.getD 14 undef]) (by simp[go_sem,Act.eval]) ?_;refine (aql ((q.num)*(p.den:Int)) ((p.num)*(q.den:Int)) _ _ _ t9 t14 HL1.out HL2.out).mono ?_;rintro e w1 ⟨r,rfl,hr,hg1⟩;exact⟨r,rfl,Gr.keep hg1,hJ.gr hg1.b _ _ _ (by simp),hr⟩
  ·have t2:=hfr 2 (by simp);have hb0:aak 39 W w.heap.size [.slice a n n,.bool b,.slice c m m,.bool d]:=hJ.kept (39,w.heap.size,[.slice a n n,.bool b,.slice c m m,.bool d]) (by simp);have x00:W.cell? ⟨w.heap.size,0,none⟩=some (.slice a n n):=by rw[hb0.cell 0];rfl
   have x01:W.cell? ⟨w.heap.size,1,none⟩=some (.bool b):=by rw[hb0.cell 1];rfl
   have x02:W.cell? ⟨w.heap.size,2,none⟩=some (.slice c m m):=by rw[hb0.cell 2];rfl
   have x03:W.cell? ⟨w.heap.size,3,none⟩=some (.bool d):=by rw[hb0.cell 3];rfl
   refine aag (v:= .agg #[.slice a n n,.bool b,.slice c m m,.bool d]) (w':=W) ?_ ⟨aaR.refl _,hJ.same _ _ _ (by simp),RIs.keep HV.out hJ.k⟩;simp[go_sem,Act.eval,t2,x00,x01,x02,x03]
  ·have t16:RIs W (A.tmps.getD 16 undef) (q):=hdep 11 _ 16 rfl (by kernel_rfl) rfl;refine aat (w':=W) (f:=61) (xs:= #[A.tmps.getD 16 undef]) (by simp[go_sem,Act.eval]) ?_;refine (acm q _ _ t16 (by have:=HQ.out;unfold acr at this;omega)).mono ?_;rintro e w1 ⟨r,rfl,hr,hg1⟩;exact⟨r,rfl,Gr.keep hg1,hJ.gr hg1.b _ _ _ (by simp),hr⟩
  ·have t3:=hfr 3 (by simp);have hb1:aak 39 W (w.heap.size+1) [.slice a' n' n',.bool b',.slice c' m' m',.bool d']:=hJ.kept (39,(w.heap.size+1),[.slice a' n' n',.bool b',.slice c' m' m',.bool d']) (by simp);have x10:W.cell? ⟨(w.heap.size+1),0,none⟩=some (.slice a' n' n'):=by rw[hb1.cell 0];rfl
   have x11:W.cell? ⟨(w.heap.size+1),1,none⟩=some (.bool b'):=by rw[hb1.cell 1];rfl
   have x12:W.cell? ⟨(w.heap.size+1),2,none⟩=some (.slice c' m' m'):=by rw[hb1.cell 2];rfl
   have x13:W.cell? ⟨(w.heap.size+1),3,none⟩=some (.bool d'):=by rw[hb1.cell 3];rfl
   refine aag (v:= .agg #[.slice a' n' n',.bool b',.slice c' m' m',.bool d']) (w':=W) ?_ ⟨aaR.refl _,hJ.same _ _ _ (by simp),RIs.keep HU.out hJ.k⟩;simp[go_sem,Act.eval,t3,x10,x11,x12,x13]
  ·have t18:RIs W (A.tmps.getD 18 undef) (p):=hdep 13 _ 18 rfl (by kernel_rfl) rfl;refine aat (w':=W) (f:=61) (xs:= #[A.tmps.getD 18 undef]) (by simp[go_sem,Act.eval]) ?_;refine (acm p _ _ t18 (by have:=HP.out;unfold acr at this;omega)).mono ?_;rintro e w1 ⟨r,rfl,hr,hg1⟩;exact⟨r,rfl,Gr.keep hg1,hJ.gr hg1.b _ _ _ (by simp),hr⟩
  ·have t17:ZIs W (A.tmps.getD 17 undef) ((q.den:Int)):=hdep 12 _ 17 rfl (by kernel_rfl) rfl;have t19:ZIs W (A.tmps.getD 19 undef) ((p.den:Int)):=hdep 14 _ 19 rfl (by kernel_rfl) rfl;refine aat (w':=W) (f:=60) (xs:= #[A.tmps.getD 17 undef,A.tmps.getD 19 undef]) (by simp[go_sem,Act.eval]) ?_;refine (acd (q.den:Int) (p.den:Int) _ _ _ t17 t19 (by have:=HQ.out;unfold acr at this;rw[Int.natAbs_natCast];omega) (by have:=HP.out;unfold acr at this;rw[Int.natAbs_natCast];omega)).mono ?_;rintro e w1 ⟨r,rfl,hr,hg1⟩;exact⟨r,rfl,Gr.keep hg1,hJ.gr hg1.b _ _ _ (by simp),hr⟩
  ·have t15:ZIs W (A.tmps.getD 15 undef) ((q.num)*(p.den:Int)+(p.num)*(q.den:Int)):=hdep 10 _ 15 rfl (by kernel_rfl) rfl;have t20:ZIs W (A.tmps.getD 20 undef) ((q.den:Int)*(p.den:Int)):=hdep 15 _ 20 rfl (by kernel_rfl) rfl;refine aat (w':=W) (f:=59) (xs:= #[A.tmps.getD 15 undef,A.tmps.getD 20 undef]) (by simp[go_sem,Act.eval]) ?_;refine (aeR ((q.num)*(p.den:Int)+(p.num)*(q.den:Int)) ((q.den:Int)*(p.den:Int)) _ _ _ t15 t20 HL3.out HL4.out HD.out).mono ?_;rintro e w1 ⟨r,rfl,hr0,hg1⟩;have hr:RIs w1 r (q+p):=by have h:=hr0;rwa [al5] at h
   exact⟨r,rfl,aaX hg1,hJ.gr hg1 _ _ _ (by simp),hr⟩
  ·have t21:RIs W (A.tmps.getD 21 undef) (q+p):=hdep 16 _ 21 rfl (by kernel_rfl) rfl;obtain⟨g9,cs9,hp9,hb9,hk9⟩:=hJ.ahead (t0:=tgR 4 none 17 (q+p)) (by simp) (λj hj=>by cases hj) hf;obtain⟨y0,y1,y2,y3,rfl⟩:=hk9;obtain⟨a8,n8,b8,a7,n7,b7,e8⟩:=t21.parts;have hv8:=t21;rw[e8] at hv8;obtain⟨c0,c1,c2,c3⟩:=aie hb9;obtain⟨f0,f1,f2,f3,l0⟩:=afA hb9;obtain⟨k1,k2,k3⟩:=ahH (T:=39) hb9 (by decide) (.slice a8 n8 n8) (.bool b8) (.slice a7 n7 n7) (.bool b7);refine abp ?_ ⟨k2,hJ.put 17 undef (by simp) (λj hj=>by cases hj) rfl hp9 k1 k2 k3 (ate (hv8.keep k2)) (by simp) (by simp),trivial⟩;simp[go_sem,Act.eval,hp9,e8,c0,c1,c2,c3,f0,f1,f2,f3]
 ·intro vs W hJ hs;obtain⟨gA,csA,pA,_,bA,kA,_⟩:=hJ.at' (tgR 4 none 17 (q+p)) (by simp) (λj hj=>by cases hj);have eA:gA=w.heap.size+1+1:=adR (by simpa[aaK,Act.put] using pA);subst eA;have kA':RC W csA (q+p):=kA;obtain⟨a9,n9,b9,c9,m9,d9,rfl⟩:=ahJ kA';have HB9:Hid (aak 39 W (w.heap.size+1+1) [.slice a9 n9 n9,.bool b9,.slice c9 m9 m9,.bool d9]):=bA;have HR9:Hid (RIs W (.agg #[.slice a9 n9 n9,.bool b9,.slice c9 m9 m9,.bool d9]) (q+p)):=⟨_,rfl,kA'⟩
  have HL9:Hid (Below w.heap.size w W):=hJ.b;clear pA bA kA kA' hJ hs;simp only[aaK,List.foldl_cons,List.foldl_nil,Act.put,List.setIfInBounds_toArray,List.set_cons_succ,List.set_cons_zero];go_wp2_with fail
  exact ahm rfl rfl rfl HB9.out ⟨_,rfl,HR9.out,HL9.out⟩
set_option maxHeartbeats 8000000 in
set_option maxRecDepth 100000 in
theorem aqJ (q p:Rat) (v u:Value) (w:World) (hv:RIs w v q) (hu:RIs w u p) (hq:acr q<=100000) (hp:acr p<=100000) :
  Calls Tryz.prog 19 #[v,u] w λe w'=>∃ r,e= .returned r/\RIs w' r (q*p)/\Below w.heap.size w w':=by
 obtain⟨a,n,b,c,m,d,rfl⟩:=hv.parts;obtain⟨a',n',b',c',m',d',rfl⟩:=hu.parts;have HB1:Hid (aak 39 (r3W w a n b c m d a' n' b' c' m' d').drew w.heap.size [.slice a n n,.bool b,.slice c m m,.bool d]):=ati w a n b c m d a' n' b' c' m' d';have HB2:Hid (aak 39 (r3W w a n b c m d a' n' b' c' m' d').drew (w.heap.size+1) [.slice a' n' n',.bool b',.slice c' m' m',.bool d']):=ath w a n b c m d a' n' b' c' m' d';have HB3:Hid (aak 39 (r3W w a n b c m d a' n' b' c' m' d').drew (w.heap.size+1+1) [.slice none 0 0,.bool false,.slice none 0 0,.bool false]):=atg w a n b c m d a' n' b' c' m' d';have HG:Hid (Own w.heap.size w (r3W w a n b c m d a' n' b' c' m' d').drew):=(atf w a n b c m d a' n' b' c' m' d').drew;have HV:=Lib.hid hv;have HU:=Lib.hid hu;have HQ:=Lib.hid hq;have HP:=Lib.hid hp;have HL1:Hid ((limbs ((q.num)*(p.num)).natAbs).length<=800000):=by show _<=_;have h:=aaM (q.num) (p.num);(try simp only[Int.natAbs_natCast] at h);unfold acr at *;omega
 have HL4:Hid ((limbs ((q.den:Int)*(p.den:Int)).natAbs).length<=800000):=by show _<=_;have h:=aaM (q.den:Int) (p.den:Int);(try simp only[Int.natAbs_natCast] at h);unfold acr at *;omega
 have HD:Hid ((q.den:Int)*(p.den:Int)≠0):=Int.mul_ne_zero (acN q) (acN p);clear hv hu hq hp;go_enter Tryz.func19,Tryz.ntmps19
 go_wp2_with fail
 refine abq (s:=fun | 0=> .is (.pointer (some ⟨w.heap.size,0,none⟩)) | 1=> .z (q.num) | 2=> .is (.pointer (some ⟨(w.heap.size+1),0,none⟩)) | 3=> .z (p.num) | 4=> .z ((q.num)*(p.num)) | 5=> .q (q) | 6=> .z ((q.den:Int)) | 7=> .q (p) | 8=> .z ((p.den:Int)) | 9=> .z ((q.den:Int)*(p.den:Int)) | 10=> .q (q*p) | 11=> .any | _=> .any) (J:=MM w.heap.size w w [(39,w.heap.size,[.slice a n n,.bool b,.slice c m m,.bool d]),(39,(w.heap.size+1),[.slice a' n' n',.bool b',.slice c' m' m',.bool d'])] [tgR 4 none 11 (q*p)]) (by kernel_rfl) (by kernel_rfl) rfl (λf g a w hn h=>MM.ext (n:=12) (by simp) hn h) ?_ ?_ ?_
 ·refine⟨HG.out.b,HG.out.b |> aaX,HG.out.size,(by intro q hq;simp only[List.mem_cons,List.not_mem_nil,or_false] at hq;rcases hq with rfl | rfl;exact HB1.out;exact HB2.out),?_,(by intro t u h1 h2 hd;simp only[List.mem_singleton] at h1 h2;subst h1;subst h2;exact absurd rfl hd)⟩;intro t ht h;simp only[List.mem_singleton] at ht;subst ht;exact⟨w.heap.size+1+1,_,rfl,by omega,HB3.out,⟨_,_,_,_,rfl⟩,by intro q hq;simp only[List.mem_cons,List.not_mem_nil,or_false] at hq;rcases hq with rfl | rfl<;>simp<;>omega⟩
 ·intro i o f A W hi hJ hf hdep hdn hcl hfr hsz;rcases i with _ | _ | _ | _ | _ | _ | _ | _ | _ | _ | _ | _ | i
  all_goals (simp at hi)
  all_goals (try subst hi)
  ·have t2:=hfr 2 (by simp);refine aag (v:= .pointer (some ⟨w.heap.size,0,none⟩)) (w':=W) ?_ ⟨aaR.refl _,hJ.same _ _ _ (by simp),rfl⟩;simp[go_sem,Act.eval,t2]
  ·have t5:A.tmps.getD 5 undef= .pointer (some ⟨w.heap.size,0,none⟩):=hdep 0 _ 5 rfl (by kernel_rfl) rfl;have hb0:aak 39 W w.heap.size [.slice a n n,.bool b,.slice c m m,.bool d]:=hJ.kept (39,w.heap.size,[.slice a n n,.bool b,.slice c m m,.bool d]) (by simp);have x00:W.cell? ⟨w.heap.size,0,none⟩=some (.slice a n n):=by rw[hb0.cell 0];rfl
   have x01:W.cell? ⟨w.heap.size,1,none⟩=some (.bool b):=by rw[hb0.cell 1];rfl
   have x02:W.cell? ⟨w.heap.size,2,none⟩=some (.slice c m m):=by rw[hb0.cell 2];rfl
   have x03:W.cell? ⟨w.heap.size,3,none⟩=some (.bool d):=by rw[hb0.cell 3];rfl
   refine aag (v:= .agg #[.slice a n n,.bool b]) (w':=W) ?_ ⟨aaR.refl _,hJ.same _ _ _ (by simp),(acl (RIs.keep HV.out hJ.k)).1⟩;simp[go_sem,Act.eval,t5,x00,x01]
  ·have t3:=hfr 3 (by simp);refine aag (v:= .pointer (some ⟨(w.heap.size+1),0,none⟩)) (w':=W) ?_ ⟨aaR.refl _,hJ.same _ _ _ (by simp),rfl⟩;simp[go_sem,Act.eval,t3]
  ·have t7:A.tmps.getD 7 undef= .pointer (some ⟨(w.heap.size+1),0,none⟩):=hdep 2 _ 7 rfl (by kernel_rfl) rfl;have hb1:aak 39 W (w.heap.size+1) [.slice a' n' n',.bool b',.slice c' m' m',.bool d']:=hJ.kept (39,(w.heap.size+1),[.slice a' n' n',.bool b',.slice c' m' m',.bool d']) (by simp);have x10:W.cell? ⟨(w.heap.size+1),0,none⟩=some (.slice a' n' n'):=by rw[hb1.cell 0];rfl
   have x11:W.cell? ⟨(w.heap.size+1),1,none⟩=some (.bool b'):=by rw[hb1.cell 1];rfl
   have x12:W.cell? ⟨(w.heap.size+1),2,none⟩=some (.slice c' m' m'):=by rw[hb1.cell 2];rfl
   have x13:W.cell? ⟨(w.heap.size+1),3,none⟩=some (.bool d'):=by rw[hb1.cell 3];rfl
   refine aag (v:= .agg #[.slice a' n' n',.bool b']) (w':=W) ?_ ⟨aaR.refl _,hJ.same _ _ _ (by simp),(acl (RIs.keep HU.out hJ.k)).1⟩;simp[go_sem,Act.eval,t7,x10,x11]
  ·have t6:ZIs W (A.tmps.getD 6 undef) (q.num):=hdep 1 _ 6 rfl (by kernel_rfl) rfl;have t8:ZIs W (A.tmps.getD 8 undef) (p.num):=hdep 3 _ 8 rfl (by kernel_rfl) rfl;refine aat (w':=W) (f:=60) (xs:= #[A.tmps.getD 6 undef,A.tmps.getD 8 undef]) (by simp[go_sem,Act.eval]) ?_;refine (acd (q.num) (p.num) _ _ _ t6 t8 (by have:=HQ.out;unfold acr at this;omega) (by have:=HP.out;unfold acr at this;omega)).mono ?_;rintro e w1 ⟨r,rfl,hr,hg1⟩;exact⟨r,rfl,Gr.keep hg1,hJ.gr hg1.b _ _ _ (by simp),hr⟩
  ·have t2:=hfr 2 (by simp);have hb0:aak 39 W w.heap.size [.slice a n n,.bool b,.slice c m m,.bool d]:=hJ.kept (39,w.heap.size,[.slice a n n,.bool b,.slice c m m,.bool d]) (by simp);have x00:W.cell? ⟨w.heap.size,0,none⟩=some (.slice a n n):=by rw[hb0.cell 0];rfl
   have x01:W.cell? ⟨w.heap.size,1,none⟩=some (.bool b):=by rw[hb0.cell 1];rfl
   have x02:W.cell? ⟨w.heap.size,2,none⟩=some (.slice c m m):=by rw[hb0.cell 2];rfl
   have x03:W.cell? ⟨w.heap.size,3,none⟩=some (.bool d):=by rw[hb0.cell 3];rfl
   refine aag (v:= .agg #[.slice a n n,.bool b,.slice c m m,.bool d]) (w':=W) ?_ ⟨aaR.refl _,hJ.same _ _ _ (by simp),RIs.keep HV.out hJ.k⟩;simp[go_sem,Act.eval,t2,x00,x01,x02,x03]
  ·have t10:RIs W (A.tmps.getD 10 undef) (q):=hdep 5 _ 10 rfl (by kernel_rfl) rfl;refine aat (w':=W) (f:=61) (xs:= #[A.tmps.getD 10 undef]) (by simp[go_sem,Act.eval]) ?_;refine (acm q _ _ t10 (by have:=HQ.out;unfold acr at this;omega)).mono ?_;rintro e w1 ⟨r,rfl,hr,hg1⟩;exact⟨r,rfl,Gr.keep hg1,hJ.gr hg1.b _ _ _ (by simp),hr⟩
  ·have t3:=hfr 3 (by simp);have hb1:aak 39 W (w.heap.size+1) [.slice a' n' n',.bool b',.slice c' m' m',.bool d']:=hJ.kept (39,(w.heap.size+1),[.slice a' n' n',.bool b',.slice c' m' m',.bool d']) (by simp);have x10:W.cell? ⟨(w.heap.size+1),0,none⟩=some (.slice a' n' n'):=by rw[hb1.cell 0];rfl
   have x11:W.cell? ⟨(w.heap.size+1),1,none⟩=some (.bool b'):=by rw[hb1.cell 1];rfl
   have x12:W.cell? ⟨(w.heap.size+1),2,none⟩=some (.slice c' m' m'):=by rw[hb1.cell 2];rfl
   have x13:W.cell? ⟨(w.heap.size+1),3,none⟩=some (.bool d'):=by rw[hb1.cell 3];rfl
   refine aag (v:= .agg #[.slice a' n' n',.bool b',.slice c' m' m',.bool d']) (w':=W) ?_ ⟨aaR.refl _,hJ.same _ _ _ (by simp),RIs.keep HU.out hJ.k⟩;simp[go_sem,Act.eval,t3,x10,x11,x12,x13]
  ·have t12:RIs W (A.tmps.getD 12 undef) (p):=hdep 7 _ 12 rfl (by kernel_rfl) rfl;refine aat (w':=W) (f:=61) (xs:= #[A.tmps.getD 12 undef]) (by simp[go_sem,Act.eval]) ?_;refine (acm p _ _ t12 (by have:=HP.out;unfold acr at this;omega)).mono ?_;rintro e w1 ⟨r,rfl,hr,hg1⟩;exact⟨r,rfl,Gr.keep hg1,hJ.gr hg1.b _ _ _ (by simp),hr⟩
  ·have t11:ZIs W (A.tmps.getD 11 undef) ((q.den:Int)):=hdep 6 _ 11 rfl (by kernel_rfl) rfl;have t13:ZIs W (A.tmps.getD 13 undef) ((p.den:Int)):=hdep 8 _ 13 rfl (by kernel_rfl) rfl;refine aat (w':=W) (f:=60) (xs:= #[A.tmps.getD 11 undef,A.tmps.getD 13 undef]) (by simp[go_sem,Act.eval]) ?_;refine (acd (q.den:Int) (p.den:Int) _ _ _ t11 t13 (by have:=HQ.out;unfold acr at this;rw[Int.natAbs_natCast];omega) (by have:=HP.out;unfold acr at this;rw[Int.natAbs_natCast];omega)).mono ?_;rintro e w1 ⟨r,rfl,hr,hg1⟩;exact⟨r,rfl,Gr.keep hg1,hJ.gr hg1.b _ _ _ (by simp),hr⟩
  ·have t9:ZIs W (A.tmps.getD 9 undef) ((q.num)*(p.num)):=hdep 4 _ 9 rfl (by kernel_rfl) rfl;have t14:ZIs W (A.tmps.getD 14 undef) ((q.den:Int)*(p.den:Int)):=hdep 9 _ 14 rfl (by kernel_rfl) rfl;refine aat (w':=W) (f:=59) (xs:= #[A.tmps.getD 9 undef,A.tmps.getD 14 undef]) (by simp[go_sem,Act.eval]) ?_;refine (aeR ((q.num)*(p.num)) ((q.den:Int)*(p.den:Int)) _ _ _ t9 t14 HL1.out HL4.out HD.out).mono ?_;rintro e w1 ⟨r,rfl,hr0,hg1⟩;have hr:RIs w1 r (q*p):=by have h:=hr0;rwa [alr] at h
   exact⟨r,rfl,aaX hg1,hJ.gr hg1 _ _ _ (by simp),hr⟩
  ·have t15:RIs W (A.tmps.getD 15 undef) (q*p):=hdep 10 _ 15 rfl (by kernel_rfl) rfl;obtain⟨g9,cs9,hp9,hb9,hk9⟩:=hJ.ahead (t0:=tgR 4 none 11 (q*p)) (by simp) (λj hj=>by cases hj) hf;obtain⟨y0,y1,y2,y3,rfl⟩:=hk9;obtain⟨a8,n8,b8,a7,n7,b7,e8⟩:=t15.parts;have hv8:=t15;rw[e8] at hv8;obtain⟨c0,c1,c2,c3⟩:=aie hb9;obtain⟨f0,f1,f2,f3,l0⟩:=afA hb9;obtain⟨k1,k2,k3⟩:=ahH (T:=39) hb9 (by decide) (.slice a8 n8 n8) (.bool b8) (.slice a7 n7 n7) (.bool b7);refine abp ?_ ⟨k2,hJ.put 11 undef (by simp) (λj hj=>by cases hj) rfl hp9 k1 k2 k3 (ate (hv8.keep k2)) (by simp) (by simp),trivial⟩;simp[go_sem,Act.eval,hp9,e8,c0,c1,c2,c3,f0,f1,f2,f3]
 ·intro vs W hJ hs;obtain⟨gA,csA,pA,_,bA,kA,_⟩:=hJ.at' (tgR 4 none 11 (q*p)) (by simp) (λj hj=>by cases hj);have eA:gA=w.heap.size+1+1:=adR (by simpa[aaK,Act.put] using pA);subst eA;have kA':RC W csA (q*p):=kA;obtain⟨a9,n9,b9,c9,m9,d9,rfl⟩:=ahJ kA';have HB9:Hid (aak 39 W (w.heap.size+1+1) [.slice a9 n9 n9,.bool b9,.slice c9 m9 m9,.bool d9]):=bA;have HR9:Hid (RIs W (.agg #[.slice a9 n9 n9,.bool b9,.slice c9 m9 m9,.bool d9]) (q*p)):=⟨_,rfl,kA'⟩
  have HL9:Hid (Below w.heap.size w W):=hJ.b;clear pA bA kA kA' hJ hs;simp only[aaK,List.foldl_cons,List.foldl_nil,Act.put,List.setIfInBounds_toArray,List.set_cons_succ,List.set_cons_zero];go_wp2_with fail
  exact ahm rfl rfl rfl HB9.out ⟨_,rfl,HR9.out,HL9.out⟩
set_option maxHeartbeats 8000000 in
set_option maxRecDepth 100000 in
theorem aqG (q p:Rat) (v u:Value) (w:World) (hv:RIs w v q) (hu:RIs w u p) (hq:acr q<=100000) (hp:acr p<=100000) :
  Calls Tryz.prog 18 #[v,u] w λe w'=>∃ r,e= .returned r/\RIs w' r (q-p)/\Below w.heap.size w w':=by
 obtain⟨a,n,b,c,m,d,rfl⟩:=hv.parts;obtain⟨a',n',b',c',m',d',rfl⟩:=hu.parts;have HB1:Hid (aak 39 (r3W w a n b c m d a' n' b' c' m' d').drew w.heap.size [.slice a n n,.bool b,.slice c m m,.bool d]):=ati w a n b c m d a' n' b' c' m' d';have HB2:Hid (aak 39 (r3W w a n b c m d a' n' b' c' m' d').drew (w.heap.size+1) [.slice a' n' n',.bool b',.slice c' m' m',.bool d']):=ath w a n b c m d a' n' b' c' m' d';have HB3:Hid (aak 39 (r3W w a n b c m d a' n' b' c' m' d').drew (w.heap.size+1+1) [.slice none 0 0,.bool false,.slice none 0 0,.bool false]):=atg w a n b c m d a' n' b' c' m' d';have HG:Hid (Own w.heap.size w (r3W w a n b c m d a' n' b' c' m' d').drew):=(atf w a n b c m d a' n' b' c' m' d').drew;have HV:=Lib.hid hv;have HU:=Lib.hid hu;have HQ:=Lib.hid hq;have HP:=Lib.hid hp;clear hv hu hq hp;go_enter Tryz.func18,Tryz.ntmps18
 go_wp2_with fail
 refine abq (s:=fun | 0=> .q (q) | 1=> .q (p) | 2=> .q (-p) | 3=> .q (q-p) | 4=> .any | _=> .any) (J:=MM w.heap.size w w [(39,w.heap.size,[.slice a n n,.bool b,.slice c m m,.bool d]),(39,(w.heap.size+1),[.slice a' n' n',.bool b',.slice c' m' m',.bool d'])] [tgR 4 none 4 (q-p)]) (by kernel_rfl) (by kernel_rfl) rfl (λf g a w hn h=>MM.ext (n:=5) (by simp) hn h) ?_ ?_ ?_
 ·refine⟨HG.out.b,HG.out.b |> aaX,HG.out.size,(by intro q hq;simp only[List.mem_cons,List.not_mem_nil,or_false] at hq;rcases hq with rfl | rfl;exact HB1.out;exact HB2.out),?_,(by intro t u h1 h2 hd;simp only[List.mem_singleton] at h1 h2;subst h1;subst h2;exact absurd rfl hd)⟩;intro t ht h;simp only[List.mem_singleton] at ht;subst ht;exact⟨w.heap.size+1+1,_,rfl,by omega,HB3.out,⟨_,_,_,_,rfl⟩,by intro q hq;simp only[List.mem_cons,List.not_mem_nil,or_false] at hq;rcases hq with rfl | rfl<;>simp<;>omega⟩
 ·intro i o f A W hi hJ hf hdep hdn hcl hfr hsz;rcases i with _ | _ | _ | _ | _ | i
  all_goals (simp at hi)
  all_goals (try subst hi)
  ·have t2:=hfr 2 (by simp);have hb0:aak 39 W w.heap.size [.slice a n n,.bool b,.slice c m m,.bool d]:=hJ.kept (39,w.heap.size,[.slice a n n,.bool b,.slice c m m,.bool d]) (by simp);have x00:W.cell? ⟨w.heap.size,0,none⟩=some (.slice a n n):=by rw[hb0.cell 0];rfl
   have x01:W.cell? ⟨w.heap.size,1,none⟩=some (.bool b):=by rw[hb0.cell 1];rfl
   have x02:W.cell? ⟨w.heap.size,2,none⟩=some (.slice c m m):=by rw[hb0.cell 2];rfl
   have x03:W.cell? ⟨w.heap.size,3,none⟩=some (.bool d):=by rw[hb0.cell 3];rfl
   refine aag (v:= .agg #[.slice a n n,.bool b,.slice c m m,.bool d]) (w':=W) ?_ ⟨aaR.refl _,hJ.same _ _ _ (by simp),RIs.keep HV.out hJ.k⟩;simp[go_sem,Act.eval,t2,x00,x01,x02,x03]
  ·have t3:=hfr 3 (by simp);have hb1:aak 39 W (w.heap.size+1) [.slice a' n' n',.bool b',.slice c' m' m',.bool d']:=hJ.kept (39,(w.heap.size+1),[.slice a' n' n',.bool b',.slice c' m' m',.bool d']) (by simp);have x10:W.cell? ⟨(w.heap.size+1),0,none⟩=some (.slice a' n' n'):=by rw[hb1.cell 0];rfl
   have x11:W.cell? ⟨(w.heap.size+1),1,none⟩=some (.bool b'):=by rw[hb1.cell 1];rfl
   have x12:W.cell? ⟨(w.heap.size+1),2,none⟩=some (.slice c' m' m'):=by rw[hb1.cell 2];rfl
   have x13:W.cell? ⟨(w.heap.size+1),3,none⟩=some (.bool d'):=by rw[hb1.cell 3];rfl
   refine aag (v:= .agg #[.slice a' n' n',.bool b',.slice c' m' m',.bool d']) (w':=W) ?_ ⟨aaR.refl _,hJ.same _ _ _ (by simp),RIs.keep HU.out hJ.k⟩;simp[go_sem,Act.eval,t3,x10,x11,x12,x13]
  ·have t6:RIs W (A.tmps.getD 6 undef) (p):=hdep 1 _ 6 rfl (by kernel_rfl) rfl;refine aat (w':=W) (f:=63) (xs:= #[A.tmps.getD 6 undef]) (by simp[go_sem,Act.eval]) ?_;refine (alR p _ _ t6 (by have:=HP.out;unfold acr at this;omega)).mono ?_;rintro e w1 ⟨r,rfl,hr,hg1⟩;exact⟨r,rfl,Gr.keep hg1,hJ.gr hg1.b _ _ _ (by simp),hr⟩
  ·have t5:RIs W (A.tmps.getD 5 undef) (q):=hdep 0 _ 5 rfl (by kernel_rfl) rfl;have t7:RIs W (A.tmps.getD 7 undef) (-p):=hdep 2 _ 7 rfl (by kernel_rfl) rfl;refine aat (w':=W) (f:=17) (xs:= #[A.tmps.getD 5 undef,A.tmps.getD 7 undef]) (by simp[go_sem,Act.eval]) ?_;refine (aoD q (-p) _ _ _ t5 t7 HQ.out (by have:=HP.out;unfold acr at *;simpa using this)).mono ?_;rintro e w1 ⟨r,rfl,hr0,hg1⟩;have hr:RIs w1 r (q-p):=by have h:=hr0;rwa [<- Rat.sub_eq_add_neg] at h
   exact⟨r,rfl,aaX hg1,hJ.gr hg1 _ _ _ (by simp),hr⟩
  ·have t8:RIs W (A.tmps.getD 8 undef) (q-p):=hdep 3 _ 8 rfl (by kernel_rfl) rfl;obtain⟨g9,cs9,hp9,hb9,hk9⟩:=hJ.ahead (t0:=tgR 4 none 4 (q-p)) (by simp) (λj hj=>by cases hj) hf;obtain⟨y0,y1,y2,y3,rfl⟩:=hk9;obtain⟨a8,n8,b8,a7,n7,b7,e8⟩:=t8.parts;have hv8:=t8;rw[e8] at hv8;obtain⟨c0,c1,c2,c3⟩:=aie hb9;obtain⟨f0,f1,f2,f3,l0⟩:=afA hb9;obtain⟨k1,k2,k3⟩:=ahH (T:=39) hb9 (by decide) (.slice a8 n8 n8) (.bool b8) (.slice a7 n7 n7) (.bool b7);refine abp ?_ ⟨k2,hJ.put 4 undef (by simp) (λj hj=>by cases hj) rfl hp9 k1 k2 k3 (ate (hv8.keep k2)) (by simp) (by simp),trivial⟩;simp[go_sem,Act.eval,hp9,e8,c0,c1,c2,c3,f0,f1,f2,f3]
 ·intro vs W hJ hs;obtain⟨gA,csA,pA,_,bA,kA,_⟩:=hJ.at' (tgR 4 none 4 (q-p)) (by simp) (λj hj=>by cases hj);have eA:gA=w.heap.size+1+1:=adR (by simpa[aaK,Act.put] using pA);subst eA;have kA':RC W csA (q-p):=kA;obtain⟨a9,n9,b9,c9,m9,d9,rfl⟩:=ahJ kA';have HB9:Hid (aak 39 W (w.heap.size+1+1) [.slice a9 n9 n9,.bool b9,.slice c9 m9 m9,.bool d9]):=bA;have HR9:Hid (RIs W (.agg #[.slice a9 n9 n9,.bool b9,.slice c9 m9 m9,.bool d9]) (q-p)):=⟨_,rfl,kA'⟩
  have HL9:Hid (Below w.heap.size w W):=hJ.b;clear pA bA kA kA' hJ hs;simp only[aaK,List.foldl_cons,List.foldl_nil,Act.put,List.setIfInBounds_toArray,List.set_cons_succ,List.set_cons_zero];go_wp2_with fail
  exact ahm rfl rfl rfl HB9.out ⟨_,rfl,HR9.out,HL9.out⟩
end Go.Proofs.YtcmplpkmfbhpdaaGreat
namespace Go.Proofs.YtcmplpkmfbhpdaaGreat
open Go Go.RowKit
set_option maxHeartbeats 8000000 in
set_option maxRecDepth 100000 in
theorem alA (x y:Int) (v u:Value) (w:World) (hv:ZIs w v x) (hu:ZIs w u y) (hx:(limbs x.natAbs).length<=800000) (hy:(limbs y.natAbs).length<=800000) (hd0:y≠0) :
  Calls Tryz.prog 57 #[v,u] w λe w'=>∃ r,e= .returned (.tuple #[r,.int .i64 0])/\RIs w' r (Rat.divInt x y)/\Below w.heap.size w w':=by
 obtain⟨a,n,b,rfl⟩:=hv.parts;obtain⟨c,m,d,rfl⟩:=hu.parts;have HB1:=Lib.hid (asE w a n b c m d);have HB2:=Lib.hid (asD w a n b c m d);have HB3:=Lib.hid (asC w a n b c m d);have HG:=Lib.hid (asB w a n b c m d);have HX:=Lib.hid (hv.keep (aaX HG.out));have HY:=Lib.hid (hu.keep (aaX HG.out));have HXL:=Lib.hid hx;have HYL:=Lib.hid hy;have HD0:=Lib.hid hd0;obtain⟨x0,x1,x2,x3,x4⟩:=abV HB1.out;obtain⟨y0,y1,y2,y3,y4⟩:=abV HB2.out;clear hv hu hx hy hd0;go_enter Tryz.func57,Tryz.ntmps57
 go_wp2_with fail
 refine (aej y _ _ HY.out (by have:=HYL.out;omega)).mono ?_;rintro e w1 ⟨rfl,hg1⟩;have hs:=ak7 HD0.out;have gr:=Gr.grown hg1;have HC1:=Lib.hid (HB1.out.still gr);have HC2:=Lib.hid (HB2.out.still gr);have HC3:=Lib.hid (HB3.out.still gr);have HX1:=Lib.hid (Gr.zIs hg1 HX.out);have HY1:=Lib.hid (Gr.zIs hg1 HY.out);have HG1:Hid (Below w.heap.size w w1):=HG.out.trans (hg1.b.mono HG.out.size);clear x0 x1 x2 x3 x4 y0 y1 y2 y3 y4 HB1 HB2 HB3 HX HY HG hg1 gr;obtain⟨x0,x1,x2,x3,x4⟩:=abV HC1.out;obtain⟨y0,y1,y2,y3,y4⟩:=abV HC2.out;go_wp2_with fail
 refine (aeR x y _ _ _ HX1.out HY1.out HXL.out HYL.out HD0.out).mono ?_;rintro e w2 ⟨r,rfl,hr,hb2⟩;obtain⟨a7,n7,b7,a8,n8,b8,rfl⟩:=hr.parts;have HR:=Lib.hid hr;have gr2:=aar hb2 none;have HD3:=Lib.hid (HC3.out.still gr2);have HG2:Hid (Below w.heap.size w w2):=HG1.out.trans (hb2.mono HG1.out.size);clear x0 x1 x2 x3 x4 y0 y1 y2 y3 y4 HC1 HC2 HC3 HX1 HY1 HG1 hb2 gr2 hr hs;obtain⟨i0,i1,i2,i3⟩:=aie HD3.out;obtain⟨j0,j1,j2,j3,j4⟩:=afA HD3.out;go_wp2_with fail
 obtain⟨s1,s2⟩:=ae0 HR.out HD3.out (by decide);exact acA (T:=39) rfl (by kernel_rfl) rfl rfl s1 ⟨_,rfl,s2,aci HG2.out (by omega) _ _ _ _⟩
theorem ai4 {n:Int} (h0 : -9223372036854775808<=n) (h1:n<=9223372036854775807):(limbs n.natAbs).length<=2:=by
 rw[limbs_len];have:(4294967296:Nat) ^ 2=18446744073709551616:=by decide
 omega
set_option maxHeartbeats 8000000 in
set_option maxRecDepth 100000 in
theorem axx (x y:Int) (w:World) (hx0 : -9223372036854775808<=x) (hx1:x<=9223372036854775807) (hy0 : -9223372036854775808<=y) (hy1:y<=9223372036854775807) (hd0:y≠0) :
  Calls Tryz.prog 15 #[.int .i64 x,.int .i64 y] w λe w'=>∃ r,e= .returned (.tuple #[r,.int .i64 0])/\RIs w' r (Rat.divInt x y)/\Below w.heap.size w w':=by
 have HB:Hid (aak 39 (w.alloc (.cells #[.slice none 0 0,.bool false,.slice none 0 0,.bool false] 39)) w.heap.size [.slice none 0 0,.bool false,.slice none 0 0,.bool false]):=aak.new _ w [.slice none 0 0,.bool false,.slice none 0 0,.bool false];have HG:Hid (Own w.heap.size w (w.alloc (.cells #[.slice none 0 0,.bool false,.slice none 0 0,.bool false] 39))):=aap _ _;have HXL:=Lib.hid (ai4 hx0 hx1);have HYL:=Lib.hid (ai4 hy0 hy1);have HD0:=Lib.hid hd0;have HI:=Lib.hid (And.intro (And.intro hx0 hx1) (And.intro hy0 hy1));clear hx0 hx1 hy0 hy1 hd0;go_enter Tryz.func15,Tryz.ntmps15
 go_wp2_with fail
 refine (adr x _ HI.out.1.1 HI.out.1.2).mono ?_;rintro e w1 ⟨v1,rfl,hv1,hg1⟩;have HV1:=Lib.hid hv1;have HB1:=Lib.hid (HB.out.still (Gr.grown hg1));have HG1:=Lib.hid (HG.out.call HG.out.size hg1);clear hv1 hg1 HB HG;obtain⟨a,n,b,rfl⟩:=HV1.out.parts;go_wp2_with fail
 refine (adr y _ HI.out.2.1 HI.out.2.2).mono ?_;rintro e w2 ⟨v2,rfl,hv2,hg2⟩;have HV2:=Lib.hid hv2;have HU2:=Lib.hid (Gr.zIs hg2 HV1.out);have HB2:=Lib.hid (HB1.out.still (Gr.grown hg2));have HG2:=Lib.hid (HG1.out.call HG1.out.size hg2);clear hv2 hg2 HB1 HG1 HV1;obtain⟨c,m,d,rfl⟩:=HV2.out.parts;go_wp2_with fail
 refine (alA x y _ _ _ HU2.out HV2.out (by have:=HXL.out;omega) (by have:=HYL.out;omega) HD0.out).mono ?_;rintro e w3 ⟨r,rfl,hr,hb3⟩;obtain⟨a7,n7,b7,a8,n8,b8,rfl⟩:=hr.parts;have HR:=Lib.hid hr;have HB3:=Lib.hid (HB2.out.still (aar hb3 none));have HG3:Hid (Below w.heap.size w w3):=HG2.out.b.trans (hb3.mono HG2.out.size);clear hr hb3 HB2 HG2;obtain⟨i0,i1,i2,i3⟩:=aie HB3.out;obtain⟨j0,j1,j2,j3,j4⟩:=afA HB3.out;go_wp2_with fail
 obtain⟨s1,s2⟩:=ae0 HR.out HB3.out (by decide);exact acA (T:=39) rfl (by kernel_rfl) rfl rfl s1 ⟨_,rfl,s2,aci HG3.out (by omega) _ _ _ _⟩
def abn (lt:Rat->Rat->Bool):List Rat->Rat
 |[]=>0
 |x::r=>r.foldl (λo y=>if lt y o then y else o) x
theorem amO (lt:Rat->Rat->Bool) (l:List Rat) (i:Nat) (q:Rat) (h:l[i]? =some q):abn lt (l.take (i+1))=if i=0 then q else if lt q (abn lt (l.take i)) then q else abn lt (l.take i):=by
 have e:l.take (i+1)=l.take i++[q]:=by rw[List.take_add_one,h];rfl
 rw[e];by_cases h0:i=0
 ·subst h0;simp[abn]
 ·rw[if_neg h0];cases hl:l.take i with
  |nil=>
   have hlen:=(List.getElem?_eq_some_iff.1 h).1;have h2:=congrArg List.length hl;rw[List.length_take,List.length_nil] at h2;omega
  |cons x r=>
   simp only[abn,List.cons_append,List.foldl_append,List.foldl_cons,List.foldl_nil];rfl
section
variable (w:World)
end
end Go.Proofs.YtcmplpkmfbhpdaaGreat
namespace Go.Proofs.YtcmplpkmfbhpdaaGreat
open Go Go.RowKit
section
variable {T:TypeId} {w:World} {g:Nat} {x0 x1 x2 x3 x4 x5 x6 x7 c0 c1 c2 c3 c4 c5 c6 c7:Value}
end
section
variable (w:World) (x y:Int)
end
end Go.Proofs.YtcmplpkmfbhpdaaGreat
namespace Go.Proofs.YtcmplpkmfbhpdaaGreat
open Go Go.RowKit
theorem akl {x y:Int} {k:Nat} (hy:y≠0) (h1:(limbs x.natAbs).length<=k) (h2:(limbs y.natAbs).length<=k):acr (Rat.divInt x y)<=k+k:=by
 obtain⟨e1,e2⟩:=acH x y _ rfl hy;have b1:(Rat.divInt x y).num.natAbs<=x.natAbs:=by
  rw[e1];have:=Int.natAbs_ediv_le_natAbs x (Nat.gcd x.natAbs y.natAbs);split
  ·rw[Int.natAbs_neg];exact this
  ·exact this
 have b2:(Rat.divInt x y).den<=y.natAbs:=by
  have h:=congrArg Int.natAbs e2;rw[Int.natAbs_natCast] at h;rw[h];have:=Int.natAbs_ediv_le_natAbs y (Nat.gcd x.natAbs y.natAbs);split
  ·rw[Int.natAbs_neg];exact this
  ·exact this
 have:=limbs_mono b1;have:=limbs_mono b2;unfold acr;omega
theorem af3 {x y:Int} {k:Nat} (hy:y≠0) (h1:(limbs x.natAbs).length<=k) (h2:(limbs y.natAbs).length<=k):rl (Rat.divInt x y)<=k:=by
 obtain⟨e1,e2⟩:=acH x y _ rfl hy;have b1:(Rat.divInt x y).num.natAbs<=x.natAbs:=by
  rw[e1];have:=Int.natAbs_ediv_le_natAbs x (Nat.gcd x.natAbs y.natAbs);split
  ·rw[Int.natAbs_neg];exact this
  ·exact this
 have b2:(Rat.divInt x y).den<=y.natAbs:=by
  have h:=congrArg Int.natAbs e2;rw[Int.natAbs_natCast] at h;rw[h];have:=Int.natAbs_ediv_le_natAbs y (Nat.gcd x.natAbs y.natAbs);split
  ·rw[Int.natAbs_neg];exact this
  ·exact this
 have:=limbs_mono b1;have:=limbs_mono b2;unfold rl;omega
theorem aw3 (q p:Rat):rl (q*p)<=rl q+rl p:=by
 have h1:=aaM q.num p.num;have h2:=aaM (q.den:Int) (p.den:Int);simp only[Int.natAbs_natCast] at h2;have e:q*p=Rat.divInt (q.num*p.num) ((q.den:Int)*(p.den:Int)):=(alr q p).symm;rw[e];exact af3 (Int.mul_ne_zero (acN q) (acN p)) (by unfold rl;omega) (by unfold rl;omega)
theorem aw4 (q p:Rat) (hp:p≠0):rl (q/p)<=rl q+rl p:=by
 rw[<- alW];have h1:=aaM q.num (p.den:Int);have h2:=aaM (q.den:Int) p.num;simp only[Int.natAbs_natCast] at h1 h2;exact af3 (Int.mul_ne_zero (acN q) (λe=>hp (Rat.num_eq_zero.1 e))) (by unfold rl;omega) (by unfold rl;omega)
theorem asa (q p:Rat):rl (q+p)<=rl q+rl p+1:=by
 rw[<- al5];have h1:=aaM q.num p.den;have h2:=aaM p.num q.den;have h3:=aaM q.den p.den;simp only[Int.natAbs_natCast] at h1 h2 h3;have h4:=ag4 (x:=q.num*p.den) (y:=p.num*q.den) (k:=rl q+rl p) (by unfold rl;omega) (by unfold rl;omega);exact af3 (Int.mul_ne_zero (acN q) (acN p)) h4 (by unfold rl;omega)
theorem ar9 (p:Rat):rl (-p)=rl p:=by unfold rl;rw[Rat.neg_num,Int.natAbs_neg,Rat.neg_den]
theorem aw2 (q p:Rat):rl (q-p)<=rl q+rl p+1:=by
 rw[Rat.sub_eq_add_neg];have:=asa q (-p);rwa [ar9] at this
theorem adQ {x:Rat} {s:Nat} (h:rl x<=s):acr x<=2*s:=by unfold rl at h;unfold acr;omega
end Go.Proofs.YtcmplpkmfbhpdaaGreat
