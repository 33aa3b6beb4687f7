import Derived.Test.YtcmplpkmfbhpdaaGreatGC
namespace Go.Proofs.YtcmplpkmfbhpdaaGreat
open Go Go.RowKit
def asV (w:World) (a b:Option Addr) (l m:List Nat) (k:Nat) (v cv u:Value) (wr:World):Prop:=
 ∃ (i:Nat) (o:List Nat) (c:Nat),cv= .int .u64 c/\u= .int .i64 i/\wr.ownsRow (w.heap.size+1+1+1) 213 1 v i (o.map λx:Nat=>Value.int .u32 x)/\afC l m i o c/\i<=l.length/\l.length<k+i/\
  aak 35 wr w.heap.size [.slice a l.length l.length]/\aak 35 wr (w.heap.size+1) [.slice b m.length m.length]/\aak 35 wr (w.heap.size+1+1) [.slice none 0 0]/\Own w.heap.size w wr
theorem abA {n:Nat} {e:TypeId} {v:Value} {k:Nat} {xs:List Value} {wr:World} (h:wr.ownsRow (n+1+1+1) e 1 v k xs):v.ownBlock≠some n/\v.ownBlock≠some (n+1)/\v.ownBlock≠some (n+1+1):=by
 refine⟨λe=> ?_,λe=> ?_,λe=> ?_⟩<;>(have:=(h.lt _ e).1;omega)
theorem aba {w wr w2:World} {B n:Nat} {e:TypeId} {v:Value} {xs:List Value} {o:Obj} (hg:Own w.heap.size w wr) (hown:wr.ownsRow B e 1 v n xs) (hgrow:(wr.alloc o).grownBy w2 v.ownBlock) (hd:(wr.alloc o).drawn<=w2.drawn) (hB:w.heap.size<=B:=by omega):Own w.heap.size w w2:=
 ⟨(hg.b.alloc hg.size o).grown hgrow (by have:=hg.size;simp;omega) (λk e=>by have:=(hown.lt k e).1;omega),Nat.le_trans hg.d hd⟩
theorem adG {w:World} {B n:Nat} {v:Value} {l:List Nat} (h:w.ownsRow B 213 1 v n (l.map λx:Nat=>Value.int .u32 x)) (hn:0<n) (hl:l.length=n) :
  ∃ a c,v= .slice a n c/\n<=c/\abi w a l:=by
 obtain⟨_,⟨_,h0⟩ | ⟨g,cap,cur,rfl,hB,hh,hc,_,hs,ht⟩⟩:=h
 ·omega
 ·refine⟨_,cap,rfl,hc,.inr ⟨g,cur,rfl,hh,λj x hx=> ?_⟩⟩;have hj:j<l.length:=(List.getElem?_eq_some_iff.1 hx).1;have h1:(cur.toList.take (n*1))[j]? =some (Value.int .u32 (x:Nat)):=by rw[ht,List.getElem?_map,hx];rfl
  rw[List.getElem?_take,if_pos (by omega)] at h1;simpa using h1
theorem acW (l:List Nat) (a:Option Addr) (n c:Nat) (w:World) (hl:Limb l) (hr:abi w a l) (hn:l.length=n) (hc:n<=c) (hsz:n<=1000000) :
  Calls Tryz.prog 169 #[.slice a n c] w λe w'=>∃ v,e= .returned v/\aaD w' v (valL l)/\Own w.heap.size w w':=by
 subst hn;exact ake l a c w hl hr hc hsz
set_option maxHeartbeats 4000000 in
set_option maxRecDepth 100000 in
theorem amE (x y:Nat) (v u:Value) (w:World) (hv:aaD w v x) (hu:aaD w u y) (hx:(limbs x).length<=900000) (hy:(limbs y).length<=900000) :
  Calls Tryz.prog 120 #[v,u] w λe w'=>∃ r,e= .returned r/\aaD w' r (x+y)/\Own w.heap.size w w':=by
 obtain⟨a,rfl,hr⟩:=hv;obtain⟨b,rfl,hs⟩:=hu;have HX:=Lib.hid (val_limbs x);have HY:=Lib.hid (val_limbs y);have HLX:=Lib.hid (limbs_limb x);have HLY:=Lib.hid (limbs_limb y);have HR:=Lib.hid hr;have HS:=Lib.hid hs;clear hr hs;obtain⟨i0,hi,hz0,hz1,hz2⟩:=info_parts info213;obtain⟨l,hl⟩:∃ l,l=limbs x:=⟨_,rfl⟩
 obtain⟨m,hm⟩:∃ m,m=limbs y:=⟨_,rfl⟩
 rw[<- hl] at HX HLX HR hx ⊢;rw[<- hm] at HY HLY HS hy ⊢;clear hl hm;by_cases hsw:l.length<m.length
 ·obtain⟨w1,hmk,hown,hgk⟩:=run_make_own (P:=Tryz.prog) (w:=(((w.alloc (.cells #[.slice b m.length m.length] 35)).alloc (.cells #[.slice a l.length l.length] 35)).alloc (.cells #[.slice none 0 0] 35))) (w.heap.size+1+1+1) 33 213 i0 (.int .u32 0) 1 Tryz.underlying33 hi hz0 hz1 .i64 .i64 (m.length+1) (by rw[hz2];omega) (by unfold maxLen;omega) (by simp);have hdk:=abz _ hmk;have HB1:Hid (aak 35 (((w.alloc (.cells #[.slice b m.length m.length] 35)).alloc (.cells #[.slice a l.length l.length] 35)).alloc (.cells #[.slice none 0 0] 35)) w.heap.size [.slice b m.length m.length]):=((aak.new _ w [.slice b m.length m.length]).still (aab _ _ none)).still (aab _ _ none);have HB2:Hid (aak 35 (((w.alloc (.cells #[.slice b m.length m.length] 35)).alloc (.cells #[.slice a l.length l.length] 35)).alloc (.cells #[.slice none 0 0] 35)) (w.heap.size+1) [.slice a l.length l.length]):=(aaN (cs:=[.slice a l.length l.length]) (by simp)).still (aab _ _ none);have HB3:Hid (aak 35 (((w.alloc (.cells #[.slice b m.length m.length] 35)).alloc (.cells #[.slice a l.length l.length] 35)).alloc (.cells #[.slice none 0 0] 35)) (w.heap.size+1+1) [.slice none 0 0]):=aaN (cs:=[.slice none 0 0]) (by simp);have HG:Hid (Own w.heap.size w (((w.alloc (.cells #[.slice b m.length m.length] 35)).alloc (.cells #[.slice a l.length l.length] 35)).alloc (.cells #[.slice none 0 0] 35))):=((aap _ _).alloc (by simp) _).alloc (by simp;omega) _;have HC1:=Lib.hid (HB1.out.still hgk);have HC2:=Lib.hid (HB2.out.still hgk);have HC3:=Lib.hid (HB3.out.still hgk);have HG1:Hid (Own w.heap.size w w1):=HG.out.call HG.out.size (ab2 hgk hdk);simp only[World.size_alloc] at hmk hown;push_cast at hmk
  have HOWN:=Lib.hid hown;have hwz:w.heap.size+1+1+1<=w1.heap.size:=by have:=hgk.size;simpa using this
  have hd1:=HC1.out.cell 0;have hd2:=HC2.out.cell 0;simp only[List.getElem?_cons_zero] at hd1 hd2;clear hown hgk hdk HB1 HB2 HB3 HG;go_enter Tryz.func120,Tryz.ntmps120
  go_wp2_with fail
  go_loopg [5,6,26] (m.length+1) (λk v c u wr=>Hid (asV w b a m l k v c u wr))
  case atStart=>exact⟨0,[],0,rfl,rfl,HOWN.out,ajk _ _,Nat.zero_le _,by omega,HC1.out,HC2.out,HC3.out,HG1.out⟩
  case round=>
   clear HOWN HC1 HC2 HC3 HG1 hd1 hd2 hmk;obtain⟨i,o,c,rfl,rfl,hown,hat,hil,hik,hb1,hb2,hb3,hg⟩:=hrel.out;have HOWN:=Lib.hid hown;have HAT:=Lib.hid hat;have HB1:=Lib.hid hb1;have HB2:=Lib.hid hb2;have HB3:=Lib.hid hb3;have HG:=Lib.hid hg;have hcb:c<2:=hat.2.2.1;have holen:o.length=i:=hat.1;clear hrel hown hat hb1 hb2 hb3 hg;have hb1:=HB1.out.cell 0;have hb2:=HB2.out.cell 0;have hb3:=HB3.out.cell 0;have hf3:=HB3.out.free 0;have hsz1:=HB1.out.lt;have hsz2:=HB2.out.lt;have hsz3:=HB3.out.lt;simp only[List.getElem?_cons_zero] at hb1 hb2 hb3;by_cases hlt:i<m.length
   ·obtain⟨p,hp⟩:∃ p,m[i]? =some p:=⟨m[i]'(by omega),List.getElem?_eq_getElem _⟩
    have hpb:=HLY.out p (List.mem_of_getElem? hp);obtain⟨g,ha,hgl,hcell⟩:=((HS.out.own HG.out)).cells (by rintro h;rw[h] at hlt;simp at hlt);subst ha;have hc0:=hcell _ _ hp;have HP:=Lib.hid hp;have hlt2:(i:Int)<m.length:=by omega
    clear hp hcell;by_cases hm:i<l.length
    ·obtain⟨q,hq⟩:∃ q,l[i]? =some q:=⟨l[i]'(by omega),List.getElem?_eq_getElem _⟩
     have hqb:=HLX.out q (List.mem_of_getElem? hq);obtain⟨g2,ha2,hgl2,hcell2⟩:=((HR.out.own HG.out)).cells (by rintro h;rw[h] at hm;simp at hm);subst ha2;have hc2:=hcell2 _ _ hq;have hm2:(i:Int)<l.length:=by omega
     obtain⟨Z,hZ⟩:∃ Z,Z=(c+p+q)%4294967296:=⟨_,rfl⟩
     obtain⟨C,hC⟩:∃ C,C=(c+p+q)/4294967296:=⟨_,rfl⟩
     have hz:((c:Int)+(p:Int)+(q:Int))%4294967296=(Z:Int):=by omega
     have hc:((c:Int)+(p:Int)+(q:Int))/4294967296=(C:Int):=by omega
     have HN:Hid (afC m l (i+1) (o++[Z]) C):=by rw[hZ,hC];exact al6 HAT.out HP.out hq hpb hqb
     clear hq hcell2 hZ hC;go_wp2_with (at_builtin;refine aav _ (by rfl) _ _ 33 (by rfl) (w.heap.size+1+1+1) 213 i0 (.int .u32 0) 1 4 Tryz.underlying33 hi hz0 hz1 hz2 (by rfl) (by decide) _ _ _ (by rfl) (HOWN.out.alloc _) ⟨wr.heap.size,0,none⟩ 1 1 [.int .u32 (Z:Nat)] (by rfl) (by rfl) (abf wr _ _ rfl) (by intro u hu;cases hu with | head=>rfl | tail _ h=>cases h) (by unfold maxLen;omega) (by omega) (by simp;omega) ?_)
     intro v' w2 hown2 hgrow2 hd2;have HNE:=Lib.hid (abA HOWN.out);have HW2:=Lib.hid (aba HG.out HOWN.out hgrow2 hd2);have HB12:=Lib.hid ((HB1.out.still (aab _ _ none)).grown hgrow2 (Ne.symm HNE.out.1));have HB22:=Lib.hid ((HB2.out.still (aab _ _ none)).grown hgrow2 (Ne.symm HNE.out.2.1));have HB32:=Lib.hid ((HB3.out.still (aab _ _ none)).grown hgrow2 (Ne.symm HNE.out.2.2));have HO2:=Lib.hid (by rw[<- List.map_singleton (f:=λx:Nat=>Value.int .u32 x),<- List.map_append] at hown2;exact hown2);have hz2:=hgrow2.size;clear hown2 hgrow2 hd2 HOWN hb1 hb2 hb3 hf3 hc0 hc2 HB1 HB2 HB3;go_wp2_with fail
     go_roundg (gk-1)
     case measure=>omega
     case rel=>exact⟨i+1,o++[Z],C,by first | rfl | go_num,rfl,HO2.out,HN.out,by omega,by omega,HB12.out,HB22.out,HB32.out,HW2.out⟩
    ·have hm2:¬ (i:Int)<l.length:=by omega
     obtain⟨Z,hZ⟩:∃ Z,Z=(c+p)%4294967296:=⟨_,rfl⟩
     obtain⟨C,hC⟩:∃ C,C=(c+p)/4294967296:=⟨_,rfl⟩
     have hz:((c:Int)+(p:Int))%4294967296=(Z:Int):=by omega
     have hc:((c:Int)+(p:Int))/4294967296=(C:Int):=by omega
     have HN:Hid (afC m l (i+1) (o++[Z]) C):=by rw[hZ,hC];exact aoB HAT.out HP.out (by omega) hpb
     clear hZ hC;go_wp2_with (at_builtin;refine aav _ (by rfl) _ _ 33 (by rfl) (w.heap.size+1+1+1) 213 i0 (.int .u32 0) 1 4 Tryz.underlying33 hi hz0 hz1 hz2 (by rfl) (by decide) _ _ _ (by rfl) (HOWN.out.alloc _) ⟨wr.heap.size,0,none⟩ 1 1 [.int .u32 (Z:Nat)] (by rfl) (by rfl) (abf wr _ _ rfl) (by intro u hu;cases hu with | head=>rfl | tail _ h=>cases h) (by unfold maxLen;omega) (by omega) (by simp;omega) ?_)
     intro v' w2 hown2 hgrow2 hd2;have HNE:=Lib.hid (abA HOWN.out);have HW2:=Lib.hid (aba HG.out HOWN.out hgrow2 hd2);have HB12:=Lib.hid ((HB1.out.still (aab _ _ none)).grown hgrow2 (Ne.symm HNE.out.1));have HB22:=Lib.hid ((HB2.out.still (aab _ _ none)).grown hgrow2 (Ne.symm HNE.out.2.1));have HB32:=Lib.hid ((HB3.out.still (aab _ _ none)).grown hgrow2 (Ne.symm HNE.out.2.2));have HO2:=Lib.hid (by rw[<- List.map_singleton (f:=λx:Nat=>Value.int .u32 x),<- List.map_append] at hown2;exact hown2);have hz2:=hgrow2.size;clear hown2 hgrow2 hd2 HOWN hb1 hb2 hb3 hf3 hc0 HB1 HB2 HB3;go_wp2_with fail
     go_roundg (gk-1)
     case measure=>omega
     case rel=>exact⟨i+1,o++[Z],C,by first | rfl | go_num,rfl,HO2.out,HN.out,by omega,by omega,HB12.out,HB22.out,HB32.out,HW2.out⟩
   ·have hil2:i=m.length:=by omega
    have hlt2:¬ (i:Int)<m.length:=by omega
    have hz:(c:Int)%4294967296=(c:Int):=by omega
    obtain⟨he1,he2,he3⟩:=aoC (l:=m) (m:=l) (o:=o) (c:=c) (by rw[<- hil2];exact HAT.out) (by omega);have HE:=Lib.hid he1;have HV:Hid (valL (o++[c])=x+y):=by show _=_;rw[he3,HY.out,HX.out,Nat.add_comm]
    clear hil2 he1 he2 he3;go_wp2_with (at_builtin;refine aav _ (by rfl) _ _ 33 (by rfl) (w.heap.size+1+1+1) 213 i0 (.int .u32 0) 1 4 Tryz.underlying33 hi hz0 hz1 hz2 (by rfl) (by decide) _ _ _ (by rfl) (HOWN.out.alloc _) ⟨wr.heap.size,0,none⟩ 1 1 [.int .u32 (c:Nat)] (by rfl) (by rfl) (abf wr _ _ rfl) (by intro u hu;cases hu with | head=>rfl | tail _ h=>cases h) (by unfold maxLen;omega) (by omega) (by simp;omega) ?_)
    intro v' w2 hown2 hgrow2 hd2;have HNE:=Lib.hid (abA HOWN.out);have HW2:=Lib.hid (aba HG.out HOWN.out hgrow2 hd2);have HB32:=Lib.hid ((HB3.out.still (aab _ _ none)).grown hgrow2 (Ne.symm HNE.out.2.2));obtain⟨ra,rc,rfl,hrc,hrow⟩:=adG (l:=o++[c]) (by rw[List.map_append];exact hown2) (by omega) (by simp[holen]);have HROW:=Lib.hid hrow;clear hown2 hgrow2 hd2 HOWN hb1 hb2 hb3 hf3 HB1 HB2 HB3 hrow;go_wp2_with fail
    refine (acW (o++[c]) _ _ _ _ HE.out HROW.out (by simp[holen]) hrc (by simp;omega)).mono ?_;rintro e3 w3 ⟨v3,rfl,hv3,hg3⟩;rw[HV.out] at hv3;have HV3:=Lib.hid hv3;have HB33:=Lib.hid (HB32.out.still (Gr.grown hg3));have HW3:=Lib.hid (HW2.out.call HW2.out.size hg3);have hlt3:=HB33.out.lt;have hc3:=HB33.out.cell 0;have hf3:=HB33.out.free 0;simp only[List.getElem?_cons_zero] at hc3;obtain⟨a3,rfl,_⟩:=hv3;clear hg3 HW2 HB32 hz;go_wp2_with fail
    refine acG rfl rfl rfl (HB33.out.set 0 _) ⟨_,rfl,?_⟩;exact abO HV3.out HB33.out (by decide) HW3.out (by omega)
 ·obtain⟨w1,hmk,hown,hgk⟩:=run_make_own (P:=Tryz.prog) (w:=(((w.alloc (.cells #[.slice a l.length l.length] 35)).alloc (.cells #[.slice b m.length m.length] 35)).alloc (.cells #[.slice none 0 0] 35))) (w.heap.size+1+1+1) 33 213 i0 (.int .u32 0) 1 Tryz.underlying33 hi hz0 hz1 .i64 .i64 (l.length+1) (by rw[hz2];omega) (by unfold maxLen;omega) (by simp);have hdk:=abz _ hmk;have HB1:Hid (aak 35 (((w.alloc (.cells #[.slice a l.length l.length] 35)).alloc (.cells #[.slice b m.length m.length] 35)).alloc (.cells #[.slice none 0 0] 35)) w.heap.size [.slice a l.length l.length]):=((aak.new _ w [.slice a l.length l.length]).still (aab _ _ none)).still (aab _ _ none);have HB2:Hid (aak 35 (((w.alloc (.cells #[.slice a l.length l.length] 35)).alloc (.cells #[.slice b m.length m.length] 35)).alloc (.cells #[.slice none 0 0] 35)) (w.heap.size+1) [.slice b m.length m.length]):=(aaN (cs:=[.slice b m.length m.length]) (by simp)).still (aab _ _ none);have HB3:Hid (aak 35 (((w.alloc (.cells #[.slice a l.length l.length] 35)).alloc (.cells #[.slice b m.length m.length] 35)).alloc (.cells #[.slice none 0 0] 35)) (w.heap.size+1+1) [.slice none 0 0]):=aaN (cs:=[.slice none 0 0]) (by simp);have HG:Hid (Own w.heap.size w (((w.alloc (.cells #[.slice a l.length l.length] 35)).alloc (.cells #[.slice b m.length m.length] 35)).alloc (.cells #[.slice none 0 0] 35))):=((aap _ _).alloc (by simp) _).alloc (by simp;omega) _;have HC1:=Lib.hid (HB1.out.still hgk);have HC2:=Lib.hid (HB2.out.still hgk);have HC3:=Lib.hid (HB3.out.still hgk);have HG1:Hid (Own w.heap.size w w1):=HG.out.call HG.out.size (ab2 hgk hdk);simp only[World.size_alloc] at hmk hown;push_cast at hmk
  have HOWN:=Lib.hid hown;have hwz:w.heap.size+1+1+1<=w1.heap.size:=by have:=hgk.size;simpa using this
  have hd1:=HC1.out.cell 0;have hd2:=HC2.out.cell 0;simp only[List.getElem?_cons_zero] at hd1 hd2;clear hown hgk hdk HB1 HB2 HB3 HG;go_enter Tryz.func120,Tryz.ntmps120
  go_wp2_with fail
  go_loopg [5,6,26] (l.length+1) (λk v c u wr=>Hid (asV w a b l m k v c u wr))
  case atStart=>exact⟨0,[],0,rfl,rfl,HOWN.out,ajk _ _,Nat.zero_le _,by omega,HC1.out,HC2.out,HC3.out,HG1.out⟩
  case round=>
   clear HOWN HC1 HC2 HC3 HG1 hd1 hd2 hmk;obtain⟨i,o,c,rfl,rfl,hown,hat,hil,hik,hb1,hb2,hb3,hg⟩:=hrel.out;have HOWN:=Lib.hid hown;have HAT:=Lib.hid hat;have HB1:=Lib.hid hb1;have HB2:=Lib.hid hb2;have HB3:=Lib.hid hb3;have HG:=Lib.hid hg;have hcb:c<2:=hat.2.2.1;have holen:o.length=i:=hat.1;clear hrel hown hat hb1 hb2 hb3 hg;have hb1:=HB1.out.cell 0;have hb2:=HB2.out.cell 0;have hb3:=HB3.out.cell 0;have hf3:=HB3.out.free 0;have hsz1:=HB1.out.lt;have hsz2:=HB2.out.lt;have hsz3:=HB3.out.lt;simp only[List.getElem?_cons_zero] at hb1 hb2 hb3;by_cases hlt:i<l.length
   ·obtain⟨p,hp⟩:∃ p,l[i]? =some p:=⟨l[i]'(by omega),List.getElem?_eq_getElem _⟩
    have hpb:=HLX.out p (List.mem_of_getElem? hp);obtain⟨g,ha,hgl,hcell⟩:=((HR.out.own HG.out)).cells (by rintro h;rw[h] at hlt;simp at hlt);subst ha;have hc0:=hcell _ _ hp;have HP:=Lib.hid hp;have hlt2:(i:Int)<l.length:=by omega
    clear hp hcell;by_cases hm:i<m.length
    ·obtain⟨q,hq⟩:∃ q,m[i]? =some q:=⟨m[i]'(by omega),List.getElem?_eq_getElem _⟩
     have hqb:=HLY.out q (List.mem_of_getElem? hq);obtain⟨g2,ha2,hgl2,hcell2⟩:=((HS.out.own HG.out)).cells (by rintro h;rw[h] at hm;simp at hm);subst ha2;have hc2:=hcell2 _ _ hq;have hm2:(i:Int)<m.length:=by omega
     obtain⟨Z,hZ⟩:∃ Z,Z=(c+p+q)%4294967296:=⟨_,rfl⟩
     obtain⟨C,hC⟩:∃ C,C=(c+p+q)/4294967296:=⟨_,rfl⟩
     have hz:((c:Int)+(p:Int)+(q:Int))%4294967296=(Z:Int):=by omega
     have hc:((c:Int)+(p:Int)+(q:Int))/4294967296=(C:Int):=by omega
     have HN:Hid (afC l m (i+1) (o++[Z]) C):=by rw[hZ,hC];exact al6 HAT.out HP.out hq hpb hqb
     clear hq hcell2 hZ hC;go_wp2_with (at_builtin;refine aav _ (by rfl) _ _ 33 (by rfl) (w.heap.size+1+1+1) 213 i0 (.int .u32 0) 1 4 Tryz.underlying33 hi hz0 hz1 hz2 (by rfl) (by decide) _ _ _ (by rfl) (HOWN.out.alloc _) ⟨wr.heap.size,0,none⟩ 1 1 [.int .u32 (Z:Nat)] (by rfl) (by rfl) (abf wr _ _ rfl) (by intro u hu;cases hu with | head=>rfl | tail _ h=>cases h) (by unfold maxLen;omega) (by omega) (by simp;omega) ?_)
     intro v' w2 hown2 hgrow2 hd2;have HNE:=Lib.hid (abA HOWN.out);have HW2:=Lib.hid (aba HG.out HOWN.out hgrow2 hd2);have HB12:=Lib.hid ((HB1.out.still (aab _ _ none)).grown hgrow2 (Ne.symm HNE.out.1));have HB22:=Lib.hid ((HB2.out.still (aab _ _ none)).grown hgrow2 (Ne.symm HNE.out.2.1));have HB32:=Lib.hid ((HB3.out.still (aab _ _ none)).grown hgrow2 (Ne.symm HNE.out.2.2));have HO2:=Lib.hid (by rw[<- List.map_singleton (f:=λx:Nat=>Value.int .u32 x),<- List.map_append] at hown2;exact hown2);have hz2:=hgrow2.size;clear hown2 hgrow2 hd2 HOWN hb1 hb2 hb3 hf3 hc0 hc2 HB1 HB2 HB3;go_wp2_with fail
     go_roundg (gk-1)
     case measure=>omega
     case rel=>exact⟨i+1,o++[Z],C,by first | rfl | go_num,rfl,HO2.out,HN.out,by omega,by omega,HB12.out,HB22.out,HB32.out,HW2.out⟩
    ·have hm2:¬ (i:Int)<m.length:=by omega
     obtain⟨Z,hZ⟩:∃ Z,Z=(c+p)%4294967296:=⟨_,rfl⟩
     obtain⟨C,hC⟩:∃ C,C=(c+p)/4294967296:=⟨_,rfl⟩
     have hz:((c:Int)+(p:Int))%4294967296=(Z:Int):=by omega
     have hc:((c:Int)+(p:Int))/4294967296=(C:Int):=by omega
     have HN:Hid (afC l m (i+1) (o++[Z]) C):=by rw[hZ,hC];exact aoB HAT.out HP.out (by omega) hpb
     clear hZ hC;go_wp2_with (at_builtin;refine aav _ (by rfl) _ _ 33 (by rfl) (w.heap.size+1+1+1) 213 i0 (.int .u32 0) 1 4 Tryz.underlying33 hi hz0 hz1 hz2 (by rfl) (by decide) _ _ _ (by rfl) (HOWN.out.alloc _) ⟨wr.heap.size,0,none⟩ 1 1 [.int .u32 (Z:Nat)] (by rfl) (by rfl) (abf wr _ _ rfl) (by intro u hu;cases hu with | head=>rfl | tail _ h=>cases h) (by unfold maxLen;omega) (by omega) (by simp;omega) ?_)
     intro v' w2 hown2 hgrow2 hd2;have HNE:=Lib.hid (abA HOWN.out);have HW2:=Lib.hid (aba HG.out HOWN.out hgrow2 hd2);have HB12:=Lib.hid ((HB1.out.still (aab _ _ none)).grown hgrow2 (Ne.symm HNE.out.1));have HB22:=Lib.hid ((HB2.out.still (aab _ _ none)).grown hgrow2 (Ne.symm HNE.out.2.1));have HB32:=Lib.hid ((HB3.out.still (aab _ _ none)).grown hgrow2 (Ne.symm HNE.out.2.2));have HO2:=Lib.hid (by rw[<- List.map_singleton (f:=λx:Nat=>Value.int .u32 x),<- List.map_append] at hown2;exact hown2);have hz2:=hgrow2.size;clear hown2 hgrow2 hd2 HOWN hb1 hb2 hb3 hf3 hc0 HB1 HB2 HB3;go_wp2_with fail
     go_roundg (gk-1)
     case measure=>omega
     case rel=>exact⟨i+1,o++[Z],C,by first | rfl | go_num,rfl,HO2.out,HN.out,by omega,by omega,HB12.out,HB22.out,HB32.out,HW2.out⟩
   ·have hil2:i=l.length:=by omega
    have hlt2:¬ (i:Int)<l.length:=by omega
    have hz:(c:Int)%4294967296=(c:Int):=by omega
    obtain⟨he1,he2,he3⟩:=aoC (l:=l) (m:=m) (o:=o) (c:=c) (by rw[<- hil2];exact HAT.out) (by omega);have HE:=Lib.hid he1;have HV:Hid (valL (o++[c])=x+y):=by show _=_;rw[he3,HX.out,HY.out]
    clear hil2 he1 he2 he3;go_wp2_with (at_builtin;refine aav _ (by rfl) _ _ 33 (by rfl) (w.heap.size+1+1+1) 213 i0 (.int .u32 0) 1 4 Tryz.underlying33 hi hz0 hz1 hz2 (by rfl) (by decide) _ _ _ (by rfl) (HOWN.out.alloc _) ⟨wr.heap.size,0,none⟩ 1 1 [.int .u32 (c:Nat)] (by rfl) (by rfl) (abf wr _ _ rfl) (by intro u hu;cases hu with | head=>rfl | tail _ h=>cases h) (by unfold maxLen;omega) (by omega) (by simp;omega) ?_)
    intro v' w2 hown2 hgrow2 hd2;have HNE:=Lib.hid (abA HOWN.out);have HW2:=Lib.hid (aba HG.out HOWN.out hgrow2 hd2);have HB32:=Lib.hid ((HB3.out.still (aab _ _ none)).grown hgrow2 (Ne.symm HNE.out.2.2));obtain⟨ra,rc,rfl,hrc,hrow⟩:=adG (l:=o++[c]) (by rw[List.map_append];exact hown2) (by omega) (by simp[holen]);have HROW:=Lib.hid hrow;clear hown2 hgrow2 hd2 HOWN hb1 hb2 hb3 hf3 HB1 HB2 HB3 hrow;go_wp2_with fail
    refine (acW (o++[c]) _ _ _ _ HE.out HROW.out (by simp[holen]) hrc (by simp;omega)).mono ?_;rintro e3 w3 ⟨v3,rfl,hv3,hg3⟩;rw[HV.out] at hv3;have HV3:=Lib.hid hv3;have HB33:=Lib.hid (HB32.out.still (Gr.grown hg3));have HW3:=Lib.hid (HW2.out.call HW2.out.size hg3);have hlt3:=HB33.out.lt;have hc3:=HB33.out.cell 0;have hf3:=HB33.out.free 0;simp only[List.getElem?_cons_zero] at hc3;obtain⟨a3,rfl,_⟩:=hv3;clear hg3 HW2 HB32 hz;go_wp2_with fail
    refine acG rfl rfl rfl (HB33.out.set 0 _) ⟨_,rfl,?_⟩;exact abO HV3.out HB33.out (by decide) HW3.out (by omega)
end Go.Proofs.YtcmplpkmfbhpdaaGreat
