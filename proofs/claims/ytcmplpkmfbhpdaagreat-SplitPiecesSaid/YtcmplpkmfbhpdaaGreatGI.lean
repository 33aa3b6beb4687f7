import Derived.Test.YtcmplpkmfbhpdaaGreatGH
namespace Go.Proofs.YtcmplpkmfbhpdaaGreat
open Go Go.RowKit
def az8 (w:World) (S:Nat) (l:List Nat) (k:Nat) (v cv u:Value) (wr:World):Prop:=
 ∃ (i:Nat) (o:List Nat) (c:Nat),cv= .int .u64 c/\u= .int .i64 i/\wr.ownsRow (w.heap.size+1+1) 213 1 v i (o.map λx:Nat=>Value.int .u32 x)/\aeO S l i o c/\i<=l.length/\l.length<k+i/\
  aak 35 wr (w.heap.size+1) [.slice none 0 0]/\Own w.heap.size w wr
theorem adH {n:Nat} {e:TypeId} {v:Value} {k:Nat} {xs:List Value} {wr:World} (h:wr.ownsRow (n+1+1) e 1 v k xs):v.ownBlock≠some (n+1):=λe=>by have:=(h.lt _ e).1;omega
set_option maxHeartbeats 8000000 in
set_option maxRecDepth 100000 in
theorem aiQ (x s:Nat) (v:Value) (w:World) (hv:aaD w v x) (hx:(limbs x).length<=900000) (hs:s<32) :
  Calls Tryz.prog 209 #[v,.int .i64 s] w λe w'=>∃ r,e= .returned (.tuple #[r,.int .i64 0])/\aaD w' r (x*2 ^ s)/\Own w.heap.size w w':=by
 obtain⟨a,rfl,hr⟩:=hv;have HX:=Lib.hid (val_limbs x);have HLX:=Lib.hid (limbs_limb x);have HR:=Lib.hid hr;clear hr;obtain⟨i0,hi,hz0,hz1,hz2⟩:=info_parts info213;obtain⟨l,hl⟩:∃ l,l=limbs x:=⟨_,rfl⟩
 rw[<- hl] at HX HLX HR hx ⊢;clear hl;obtain⟨w1,hmk,hown,hgk⟩:=run_make_own (P:=Tryz.prog) (w:=((w.alloc (.cells #[.slice a l.length l.length] 35)).alloc (.cells #[.slice none 0 0] 35))) (w.heap.size+1+1) 33 213 i0 (.int .u32 0) 1 Tryz.underlying33 hi hz0 hz1 .i64 .i64 (l.length+1) (by rw[hz2];omega) (by unfold maxLen;omega) (by simp);have hdk:=abz _ hmk;have HB1:Hid (aak 35 ((w.alloc (.cells #[.slice a l.length l.length] 35)).alloc (.cells #[.slice none 0 0] 35)) w.heap.size [.slice a l.length l.length]):=(aak.new _ w [.slice a l.length l.length]).still (aab _ _ none);have HB3:Hid (aak 35 ((w.alloc (.cells #[.slice a l.length l.length] 35)).alloc (.cells #[.slice none 0 0] 35)) (w.heap.size+1) [.slice none 0 0]):=aaN (cs:=[.slice none 0 0]) (by simp);have HG:Hid (Own w.heap.size w ((w.alloc (.cells #[.slice a l.length l.length] 35)).alloc (.cells #[.slice none 0 0] 35))):=(aap _ _).alloc (by simp) _;have HC1:=Lib.hid (HB1.out.still hgk);have HC3:=Lib.hid (HB3.out.still hgk);have HG1:Hid (Own w.heap.size w w1):=HG.out.call HG.out.size (ab2 hgk hdk);simp only[World.size_alloc] at hmk hown;push_cast at hmk
 have HOWN:=Lib.hid hown;have hwz:w.heap.size+1+1<=w1.heap.size:=by have:=hgk.size;simpa using this
 have hd1:=HC1.out.cell 0;simp only[List.getElem?_cons_zero] at hd1;clear hown hgk hdk HB1 HB3 HG;obtain⟨S,hS⟩:∃ S,S=2 ^ s:=⟨_,rfl⟩
 have hS0:0<S:=by rw[hS];exact Nat.two_pow_pos _
 have hS1:S<=2147483648:=by rw[hS];exact Nat.pow_le_pow_right (by decide) (show s<=31 by omega)
 have k0:¬ (s:Int)<0:=by omega
 have k1:¬ (s:Int)>65536:=by omega
 have k2:(s:Int)/32=0:=by omega
 have k3:(s:Int)%32=(s:Int):=by omega
 go_enter Tryz.func209,Tryz.ntmps209
 go_wp2_with fail
 go_loopg [6,7,30] (l.length+1) (λk v c u wr=>Hid (az8 w S l k v c u wr))
 case atStart=>exact⟨0,[],0,rfl,rfl,HOWN.out,aki _ hS0,Nat.zero_le _,by omega,HC3.out,HG1.out⟩
 case round=>
  clear HOWN HC1 HC3 HG1 hd1 hmk;obtain⟨i,o,c,rfl,rfl,hown,hat,hil,hik,hb3,hg⟩:=hrel.out;have HOWN:=Lib.hid hown;have HAT:=Lib.hid hat;have HB3:=Lib.hid hb3;have HG:=Lib.hid hg;have hcb:c<S:=hat.2.2.1;have holen:o.length=i:=hat.1;clear hrel hown hat hb3 hg;have hb3:=HB3.out.cell 0;have hf3:=HB3.out.free 0;have hsz3:=HB3.out.lt;simp only[List.getElem?_cons_zero] at hb3;by_cases hlt:i<l.length
  ·obtain⟨p,hp⟩:∃ p,l[i]? =some p:=⟨l[i]'(by omega),List.getElem?_eq_getElem _⟩
   have hpb:=HLX.out p (List.mem_of_getElem? hp);obtain⟨g,ha,hgl,hcell⟩:=((HR.out.own HG.out)).cells (by rintro h;rw[h] at hlt;simp at hlt);subst ha;have hc0:=hcell _ _ hp;have HP:=Lib.hid hp;have hlt2:(i:Int)<l.length:=by omega
   clear hp hcell;have hps:p*S<=4294967295*2147483648:=Nat.mul_le_mul (by omega) hS1;obtain⟨N,hN⟩:∃ N,N=c+p*S:=⟨_,rfl⟩
   have hor:bits BinOp.or IntKind.u64 (c:Int) (IntKind.u64.wrap ((p:Int)*2 ^ s))=(N:Int):=by
    have e1:IntKind.u64.wrap ((p:Int)*2 ^ s)=((p*2 ^ s:Nat):Int):=by
     have e0:((p:Int)*2 ^ s)=((p*2 ^ s:Nat):Int):=by push_cast;rfl
     rw[e0,<- hS];show ((p*S:Nat):Int)%18446744073709551616=_;omega
    rw[e1,agv s p c (by omega) (by rw[<- hS];exact hcb) (by rw[<- hS];omega),hN,hS,Nat.add_comm]
   have hNb:N<18446744073709551616:=by omega
   obtain⟨Z,hZ⟩:∃ Z,Z=N%4294967296:=⟨_,rfl⟩
   obtain⟨C,hC⟩:∃ C,C=N/4294967296:=⟨_,rfl⟩
   have hz:(N:Int)%4294967296=(Z:Int):=by omega
   have hc:(N:Int)/4294967296=(C:Int):=by omega
   have HN:Hid (aeO S l (i+1) (o++[Z]) C):=by rw[hZ,hC,hN];exact aoL HAT.out HP.out hpb
   clear hN hZ hC hps;go_wp2_with (at_builtin;refine aav _ (by rfl) _ _ 33 (by rfl) (w.heap.size+1+1) 213 i0 (.int .u32 0) 1 4 Tryz.underlying33 hi hz0 hz1 hz2 (by rfl) (by decide) _ _ _ (by rfl) (HOWN.out.alloc _) ⟨wr.heap.size,0,none⟩ 1 1 [.int .u32 (Z:Nat)] (by rfl) (by rfl) (abf wr _ _ rfl) (by intro u hu;cases hu with | head=>rfl | tail _ h=>cases h) (by unfold maxLen;omega) (by omega) (by simp;omega) ?_)
   intro v' w2 hown2 hgrow2 hd2;have HNE:=Lib.hid (adH HOWN.out);have HW2:=Lib.hid (aba HG.out HOWN.out hgrow2 hd2);have HB32:=Lib.hid ((HB3.out.still (aab _ _ none)).grown hgrow2 (Ne.symm HNE.out));have HO2:=Lib.hid (by rw[<- List.map_singleton (f:=λx:Nat=>Value.int .u32 x),<- List.map_append] at hown2;exact hown2);have hz2:=hgrow2.size;clear hown2 hgrow2 hd2 HOWN hb3 hf3 hc0 HB3 hor;go_wp2_with fail
   go_roundg (gk-1)
   case measure=>omega
   case rel=>exact⟨i+1,o++[Z],C,by first | rfl | go_num,by first | rfl | go_num,HO2.out,HN.out,by omega,by omega,HB32.out,HW2.out⟩
  ·have hil2:i=l.length:=by omega
   have hlt2:¬ (i:Int)<l.length:=by omega
   have hz:(c:Int)%4294967296=(c:Int):=by omega
   obtain⟨he1,he2,he3⟩:=aoM (d:=S) (l:=l) (o:=o) (c:=c) (by rw[<- hil2];exact HAT.out) (by omega);have HE:=Lib.hid he1;have HV:Hid (valL (o++[c])=x*2 ^ s):=by show _=_;rw[he3,HX.out,hS]
   clear hil2 he1 he2 he3;go_wp2_with (at_builtin;refine aav _ (by rfl) _ _ 33 (by rfl) (w.heap.size+1+1) 213 i0 (.int .u32 0) 1 4 Tryz.underlying33 hi hz0 hz1 hz2 (by rfl) (by decide) _ _ _ (by rfl) (HOWN.out.alloc _) ⟨wr.heap.size,0,none⟩ 1 1 [.int .u32 (c:Nat)] (by rfl) (by rfl) (abf wr _ _ rfl) (by intro u hu;cases hu with | head=>rfl | tail _ h=>cases h) (by unfold maxLen;omega) (by omega) (by simp;omega) ?_)
   intro v' w2 hown2 hgrow2 hd2;have HNE:=Lib.hid (adH HOWN.out);have HW2:=Lib.hid (aba HG.out HOWN.out hgrow2 hd2);have HB32:=Lib.hid ((HB3.out.still (aab _ _ none)).grown hgrow2 (Ne.symm HNE.out));obtain⟨ra,rc,rfl,hrc,hrow⟩:=adG (l:=o++[c]) (by rw[List.map_append];exact hown2) (by omega) (by simp[holen]);have HROW:=Lib.hid hrow;clear hown2 hgrow2 hd2 HOWN hb3 hf3 HB3 hrow;go_wp2_with fail
   refine (acW (o++[c]) _ _ _ _ HE.out HROW.out (by simp[holen]) hrc (by simp;omega)).mono ?_;rintro e3 w3 ⟨v3,rfl,hv3,hg3⟩;rw[HV.out] at hv3;have HV3:=Lib.hid hv3;have HB33:=Lib.hid (HB32.out.still (Gr.grown hg3));have HW3:=Lib.hid (HW2.out.call HW2.out.size hg3);have hlt3:=HB33.out.lt;have hc3:=HB33.out.cell 0;have hf3:=HB33.out.free 0;simp only[List.getElem?_cons_zero] at hc3;obtain⟨a3,rfl,_⟩:=hv3;clear hg3 HW2 HB32;go_wp2_with fail
   obtain⟨h1,h2⟩:=abO (u:= .slice a3 (limbs (x*2 ^ s)).length (limbs (x*2 ^ s)).length) HV3.out HB33.out (by decide) HW3.out (show w.heap.size<=w.heap.size+1 by omega);exact acA rfl (by kernel_rfl) rfl rfl (HB33.out.set 0 _) ⟨_,rfl,h1,h2⟩
end Go.Proofs.YtcmplpkmfbhpdaaGreat
