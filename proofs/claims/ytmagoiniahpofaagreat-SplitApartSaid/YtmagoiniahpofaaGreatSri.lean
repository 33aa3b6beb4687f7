/-
  slices.SortStableFunc at ints: the walks. (Printed by gen_sri.py out of the walks at boxes.)
-/
import Derived.Test.YtmagoiniahpofaaGreatSrX
import Derived.Test.YtmagoiniahpofaaGreatSortLay
import Derived.Shelf.SlSortCmp.Insertion1
namespace Go.Proofs.YtmagoiniahpofaaGreat
open Go Go.RowKit Go.Lib Go.Sort Go.Shelf
variable {α:Type} [Inhabited α]
set_option maxHeartbeats 4000000 in
set_option maxRecDepth 1000000 in
theorem swapRange_any (enc:α→Value) (fv:Value) (blk off cap sz a b n:Nat) (d0 d:Array α) (w0 w:World)
  (R:Row1 enc w0 blk off d0) (hs:d0.size=sz) (hd:d.size=sz) (S:SW enc w0 blk off d w) (hab:a+n≤b) (hb:b+n≤sz) (hsz:sz<4611686018427387904) :
  Calls Tryz.prog 105 #[.slice (some ⟨blk,off,none⟩) sz cap,.int .i64 a,.int .i64 b,.int .i64 n,fv] w fun e w'=>e= .returned (.tuple #[])∧∃ d',d'.size=sz∧SwR a b n d d'∧SW enc w0 blk off d' w':=by
 have mixed:Tryz.prog.follows .mixedOrders=true:=by kernel_rfl
 have a24:∀ w,(isAgg 3).run Tryz.prog w= .ok false w:=Tryz.isAgg3
 have z24:∀ w,(Go.sizeOf 3).run Tryz.prog w= .ok 1 w:=Tryz.sizeOf3
 have hcl0:=R.hO.cells
 simp only[Value.cells] at hcl0
 have hst:=R.hO.store Tryz.prog
 have S0:Aside (SW enc w0 blk off d w):=S
 clear S
 go_enter Tryz.func105,Tryz.ntmps105
 go_wp2
 go_loopg [10] n (fun kx si wr=>∃ (i:Nat) (dk:Array α),si= .int .i64 i∧i≤n∧n≤kx+i∧dk.size=sz∧Hid (SwR a b i d dk)∧Aside (SW enc w0 blk off dk wr))
 case atStart=>exact⟨0,d,rfl,by omega,by omega,hd,swR_start a b d,S0⟩
 case round=>
  clear S0
  obtain⟨i,dk,rfl,hin,hkx,hds,hR,S1⟩:=hrel
  by_cases hlt:i<n
  ·have hlz:(i:Int)<(n:Int):=by omega
   go_wp2_with fail
   have ea44:((a:Int)+(i:Int)).toNat=a+i:=by omega
   have pa44:(0:Int)≤(a:Int)+(i:Int):=by omega
   have ba44:(a:Int)+(i:Int)<(sz:Int):=by omega
   have ra44:IntKind.i64.wrap ((a:Int)+(i:Int))=(a:Int)+(i:Int):=by rw[IntKind.wrap_i64];omega
   have ec44:((b:Int)+(i:Int)).toNat=b+i:=by omega
   have pc44:(0:Int)≤(b:Int)+(i:Int):=by omega
   have bc44:(b:Int)+(i:Int)<(sz:Int):=by omega
   have rc44:IntKind.i64.wrap ((b:Int)+(i:Int))=(b:Int)+(i:Int):=by rw[IntKind.wrap_i64];omega
   obtain⟨xq,hxq⟩:∃ x,x=dk[a+i]! :=⟨_,rfl⟩
   obtain⟨yq,hyq⟩:∃ x,x=dk[b+i]! :=⟨_,rfl⟩
   have S2:Aside (SW enc w0 blk off (swp dk (a+i) (b+i)) ((wr.setCell ⟨blk,off+(a+i),none⟩ (enc yq)).setCell ⟨blk,off+(b+i),none⟩ (enc xq)).drew):=by rw[hxq,hyq];exact S1.out.swapped R (a+i) (b+i) (by omega) (by omega)
   have lqa:=S1.out.c1 R (by omega) (a+i) (by omega)
   have lqb:=S1.out.c1 R (by omega) (b+i) (by omega)
   have sqa:=S1.out.f1 R (by omega) (a+i) (by omega)
   have sqb:=S1.out.f1 R (by omega) (b+i) (by omega)
   obtain⟨uq,lqc⟩:=S1.out.c2 R (by omega) (a+i) (b+i) (by omega) (by omega) (enc yq)
   rw[← hxq] at lqa
   rw[← hyq] at lqb
   clear S1 hxq hyq
   go_big_region_o
   clear lqa lqb lqc sqa sqb
   generalize ((wr.setCell ⟨blk,off+(a+i),none⟩ (enc yq)).setCell ⟨blk,off+(b+i),none⟩ (enc xq)).drew=w2 at S2 ⊢
   go_wp2
   go_roundg (n-(i+1))
   case measure=>omega
   case rel=>exact⟨i+1,swp dk (a+i) (b+i),by go_num,by omega,by omega,by rw[size_swp];exact hds,swR_step (by omega) (by omega) hR.out,S2⟩
  ·have hlz:¬ (i:Int)<(n:Int):=by omega
   have hi:i=n:=by omega
   subst hi
   go_wp2
   go_end0
   exact⟨rfl,dk,hds,hR.out,S1.out⟩
set_option maxHeartbeats 4000000 in
set_option maxRecDepth 1000000 in
theorem rotate_any (enc:α→Value) (fv:Value) (blk off cap sz a m b:Nat) (d0 d:Array α) (w0 w:World)
  (R:Row1 enc w0 blk off d0) (hs:d0.size=sz) (hd:d.size=sz) (S:SW enc w0 blk off d w) (ham:a<m) (hmb:m<b) (hb:b≤sz) (hsz:sz<4611686018427387904) :
  Calls Tryz.prog 91 #[.slice (some ⟨blk,off,none⟩) sz cap,.int .i64 a,.int .i64 m,.int .i64 b,fv] w fun e w'=>e= .returned (.tuple #[])∧∃ d',d'.size=sz∧Rot a m b d d'∧SW enc w0 blk off d' w':=by
 have S0:Aside (SW enc w0 blk off d w):=S
 clear S
 go_enter Tryz.func91,Tryz.ntmps91
 go_wp2
 go_loopg [10,11] (m-a+(b-m)) (fun kx si sj wr=>∃ (i j:Nat) (dk:Array α),si= .int .i64 i∧sj= .int .i64 j∧0<i∧a+i≤m∧0<j∧m+j≤b∧i+j≤kx∧dk.size=sz∧Hid (∀ d',Rot (m-i) m (m+j) dk d'→Rot a m b d d')∧Aside (SW enc w0 blk off dk wr))
 case atStart=>exact⟨m-a,b-m,d,by go_num,by go_num,by omega,by omega,by omega,by omega,Nat.le_refl _,hd,(by intro d' h;rw[show m-(m-a)=a by omega,show m+(b-m)=b by omega] at h;exact h),S0⟩
 case round=>
  clear S0
  obtain⟨i,j,dk,rfl,rfl,hi0,him,hj0,hjb,hkx,hds,hR,S1⟩:=hrel
  have e1:((m-i:Nat):Int)=(m:Int)-(i:Int):=by omega
  by_cases hij:i=j
  ·subst hij
   have h:=swapRange_any enc fv blk off cap sz (m-i) m i d0 dk w0 wr R hs hds S1.out (by omega) (by omega) hsz
   rw[e1] at h
   have H:Aside _:=h
   clear h S1
   go_wp2_with fail
   refine Calls.mono H.out ?_
   rintro e w1 ⟨rfl,d',h1,h2,h3⟩
   have H2:=Lib.hid h2
   have H3:=Lib.hid h3
   clear h2 h3
   go_wp2_with fail
   go_end0
   exact⟨rfl,d',h1,hR.out _ (rot_eq (by omega) H2.out),H3.out⟩
  ·have hne2:¬ (i:Int)=(j:Int):=by omega
   by_cases hgt:j<i
   ·have hgz:(j:Int)<(i:Int):=by omega
    have h:=swapRange_any enc fv blk off cap sz (m-i) m j d0 dk w0 wr R hs hds S1.out (by omega) (by omega) hsz
    rw[e1] at h
    have H:Aside _:=h
    clear h S1
    go_wp2_with fail
    refine Calls.mono H.out ?_
    rintro e w1 ⟨rfl,d',h1,h2,h3⟩
    have H2:=Lib.hid h2
    have H3:Aside _:=h3
    clear h2 h3
    go_wp2_with fail
    go_roundg (i-j+j)
    case measure=>omega
    case rel=>exact⟨i-j,j,d',by go_num,rfl,by omega,by omega,hj0,hjb,Nat.le_refl _,h1,fun d2 hd2=>hR.out _ (rot_big hgt (by omega) (by omega) H2.out hd2),H3⟩
   ·have hgz:¬ (j:Int)<(i:Int):=by omega
    have e2:((m+j-i:Nat):Int)=(m:Int)+(j:Int)-(i:Int):=by omega
    have h:=swapRange_any enc fv blk off cap sz (m-i) (m+j-i) i d0 dk w0 wr R hs hds S1.out (by omega) (by omega) hsz
    rw[e1,e2] at h
    have H:Aside _:=h
    clear h S1
    go_wp2_with fail
    refine Calls.mono H.out ?_
    rintro e w1 ⟨rfl,d',h1,h2,h3⟩
    have H2:=Lib.hid h2
    have H3:Aside _:=h3
    clear h2 h3
    go_wp2_with fail
    go_roundg (i+(j-i))
    case measure=>omega
    case rel=>exact⟨i,j-i,d',rfl,by go_num,hi0,him,by omega,by omega,Nat.le_refl _,h1,fun d2 hd2=>hR.out _ (rot_small (by omega) (by omega) (by omega) H2.out hd2),H3⟩
end Go.Proofs.YtmagoiniahpofaaGreat
namespace Go.Proofs.YtmagoiniahpofaaGreat
open Go Go.RowKit Go.Lib Go.Sort Go.Shelf
variable {α:Type} [Inhabited α]
theorem half_le (i j:Nat) (h:i<j):i≤(i+j)/2∧(i+j)/2<j:=by omega
set_option maxHeartbeats 16000000 in
set_option maxRecDepth 1000000 in
theorem symMerge_left (enc:α→Value) (cf:α→α→Int) (hO:SWO (ltOf cf)) (g:Nat) (cb:Array Value) (blk off cap sz:Nat) (d0:Array α) (w0:World)
  (eg:∀ args w,(callFunc g args).run Tryz.prog w= .ok (.enter g args) w) (hcmp:CmpLays1 Tryz.prog g cb enc cf blk off sz w0)
  (R:Row1 enc w0 blk off d0) (hs:d0.size=sz) (hsz:sz<4611686018427387904) (a m b:Nat) (d:Array α) (w:World) (hd:d.size=sz) (S:SW enc w0 blk off d w) (hm:m=a+1) (hmb:m<b) (hb:b≤sz) (hs2:SortedIn (ltOf cf) m b d) :
  Calls Tryz.prog 60 #[.slice (some ⟨blk,off,none⟩) sz cap,.int .i64 a,.int .i64 m,.int .i64 b,.func (.func g) #[] cb] w fun e w'=>e= .returned (.tuple #[])∧∃ d',d'.size=sz∧PermIn a b d d'∧SortedIn (ltOf cf) a b d'∧SW enc w0 blk off d' w':=by
 have mixed:Tryz.prog.follows .mixedOrders=true:=by kernel_rfl
 have a24:∀ w,(isAgg 3).run Tryz.prog w= .ok false w:=Tryz.isAgg3
 have z24:∀ w,(Go.sizeOf 3).run Tryz.prog w= .ok 1 w:=Tryz.sizeOf3
 have hcl0:=R.hO.cells
 simp only[Value.cells] at hcl0
 have hst:=R.hO.store Tryz.prog
 have HC:Aside _:=hcmp
 have HO:Hid (SWO (ltOf cf)):=hO
 clear hcmp hO
 have S0:Aside (SW enc w0 blk off d w):=S
 have H2:=Lib.hid hs2
 clear S hs2
 have HM:=Lib.hid hm
 have hg:(m:Int)-(a:Int)=1:=by omega
 have ham:a<m:=by omega
 clear hm
 go_enter Tryz.func60,Tryz.ntmps60
 go_wp2_with fail
 clear hg
 go_loopg [10,11] (b-m) (fun kx si sj wr=>∃ (i j:Nat),si= .int .i64 i∧sj= .int .i64 j∧m≤i∧i≤j∧j≤b∧j-i≤kx∧Hid (SrL (ltOf cf) a m b i j d)∧Aside (SW enc w0 blk off d wr))
 case atStart=>exact⟨m,b,rfl,rfl,Nat.le_refl _,by omega,Nat.le_refl _,by omega,SrL.start a d (by omega),S0⟩
 case round=>
  clear S0
  obtain⟨i,j,rfl,rfl,hai,hij,hjb,hkx,hL,S1⟩:=hrel
  by_cases hlt:i<j
  ·have hlz:(i:Int)<(j:Int):=by omega
   obtain⟨h,hh⟩:∃ h,h=(i+j)/2:=⟨_,rfl⟩
   have hh1:i≤h∧h<j:=by rw[hh];exact half_le i j hlt
   have hz:Hid (((i:Int)+(j:Int))/2=(h:Int)):=by show _=_;rw[hh];omega
   clear hh
   go_wp2_with fail
   rw[hz.out]
   clear hz
   cases hlv:ltOf cf d[h]! d[a]! with
   |true=>
    have eax1:((h:Int)).toNat=h:=by omega
    have pax1:(0:Int)≤(h:Int):=by omega
    have bax1:(h:Int)<(sz:Int):=by omega
    have rax1:IntKind.i64.wrap ((h:Int))=(h:Int):=by rw[IntKind.wrap_i64];omega
    have eay1:((a:Int)).toNat=a:=by omega
    have pay1:(0:Int)≤(a:Int):=by omega
    have bay1:(a:Int)<(sz:Int):=by omega
    have ray1:IntKind.i64.wrap ((a:Int))=(a:Int):=by rw[IntKind.wrap_i64];omega
    obtain⟨x1,hx1⟩:∃ z,z=d[h]! :=⟨_,rfl⟩
    obtain⟨y1,hy1⟩:∃ z,z=d[a]! :=⟨_,rfl⟩
    have l1a:=S1.out.cl R (by omega) (h) (by omega)
    have l1b:=S1.out.cl R (by omega) (a) (by omega)
    rw[← hx1] at l1a
    rw[← hy1] at l1b
    have hc1:=S1.out.cmp HC.out (by omega) x1 y1
    have hv1:cf x1 y1<0:=by rw[hx1,hy1];exact of_decide_eq_true hlv
    have hd1:decide (cf x1 y1<0)=true:=decide_eq_true hv1
    clear hx1 hy1
    go_wp2_with fail
    go_quiet_grown (first | (go_at_fn g;refine Calls.grown_of (hc1 _ _)))
    have S2:Aside (SW enc w0 blk off d (grow (wr.drewN nq) osq)):=S1.out.grown nq osq
    clear l1a l1b hc1 S1
    generalize grow (wr.drewN nq) osq=w1 at S2 ⊢
    clear nq osq
    go_wp2_with fail
    go_roundg (j-(h+1))
    case measure=>omega
    case rel=>exact⟨h+1,j,by go_num,rfl,by omega,by omega,hjb,by omega,hL.out.up HO.out H2.out hh1.1 hh1.2 hlv,S2⟩
   |false=>
    have eax2:((h:Int)).toNat=h:=by omega
    have pax2:(0:Int)≤(h:Int):=by omega
    have bax2:(h:Int)<(sz:Int):=by omega
    have rax2:IntKind.i64.wrap ((h:Int))=(h:Int):=by rw[IntKind.wrap_i64];omega
    have eay2:((a:Int)).toNat=a:=by omega
    have pay2:(0:Int)≤(a:Int):=by omega
    have bay2:(a:Int)<(sz:Int):=by omega
    have ray2:IntKind.i64.wrap ((a:Int))=(a:Int):=by rw[IntKind.wrap_i64];omega
    obtain⟨x2,hx2⟩:∃ z,z=d[h]! :=⟨_,rfl⟩
    obtain⟨y2,hy2⟩:∃ z,z=d[a]! :=⟨_,rfl⟩
    have l2a:=S1.out.cl R (by omega) (h) (by omega)
    have l2b:=S1.out.cl R (by omega) (a) (by omega)
    rw[← hx2] at l2a
    rw[← hy2] at l2b
    have hc2:=S1.out.cmp HC.out (by omega) x2 y2
    have hv2:¬ cf x2 y2<0:=by rw[hx2,hy2];exact of_decide_eq_false hlv
    have hd2:decide (cf x2 y2<0)=false:=decide_eq_false hv2
    clear hx2 hy2
    go_wp2_with fail
    go_quiet_grown (first | (go_at_fn g;refine Calls.grown_of (hc2 _ _)))
    have S2:Aside (SW enc w0 blk off d (grow (wr.drewN nq) osq)):=S1.out.grown nq osq
    clear l2a l2b hc2 S1
    generalize grow (wr.drewN nq) osq=w2 at S2 ⊢
    clear nq osq
    go_wp2_with fail
    go_roundg (h-i)
    case measure=>omega
    case rel=>exact⟨i,h,rfl,by go_num,hai,by omega,by omega,by omega,hL.out.down HO.out H2.out hh1.1 hh1.2 hlv,S2⟩
  ·have hlz:¬ (i:Int)<(j:Int):=by omega
   have hje:j=i:=by omega
   subst hje
   go_wp2_with fail
   go_loopg [13] (j-1-a) (fun kx sq wq=>∃ (q:Nat) (dk:Array α),sq= .int .i64 q∧a≤q∧q+1≤j∧j-1-q≤kx∧dk.size=sz∧Hid (Rot a m (q+1) d dk)∧Aside (SW enc w0 blk off dk wq))
   case atStart=>exact⟨a,d,rfl,Nat.le_refl _,by omega,Nat.le_refl _,hd,(by show Rot _ _ _ _ _;rw[HM.out];exact rot_none (a:=a) (m:=a+1) d),S1⟩
   case round=>
    clear S1
    obtain⟨q,dk,rfl,haq,hqj,hkq,hds,hR,S1⟩:=hrel
    by_cases hqlt:q+1<j
    ·have hqz:(q:Int)<(j:Int)-1:=by omega
     go_wp2_with fail
     have eax3:((q:Int)).toNat=q:=by omega
     have pax3:(0:Int)≤(q:Int):=by omega
     have bax3:(q:Int)<(sz:Int):=by omega
     have rax3:IntKind.i64.wrap ((q:Int))=(q:Int):=by rw[IntKind.wrap_i64];omega
     have eay3:((q:Int)+1).toNat=q+1:=by omega
     have pay3:(0:Int)≤(q:Int)+1:=by omega
     have bay3:(q:Int)+1<(sz:Int):=by omega
     have ray3:IntKind.i64.wrap ((q:Int)+1)=(q:Int)+1:=by rw[IntKind.wrap_i64];omega
     obtain⟨xq,hxq⟩:∃ x,x=dk[q]! :=⟨_,rfl⟩
     obtain⟨yq,hyq⟩:∃ x,x=dk[q+1]! :=⟨_,rfl⟩
     have S2:Aside (SW enc w0 blk off (swp dk (q) (q+1)) ((wr.setCell ⟨blk,off+(q),none⟩ (enc yq)).setCell ⟨blk,off+(q+1),none⟩ (enc xq)).drew):=by rw[hxq,hyq];exact S1.out.swapped R (q) (q+1) (by omega) (by omega)
     have lqa:=S1.out.c1 R (by omega) (q) (by omega)
     have lqb:=S1.out.c1 R (by omega) (q+1) (by omega)
     have sqa:=S1.out.f1 R (by omega) (q) (by omega)
     have sqb:=S1.out.f1 R (by omega) (q+1) (by omega)
     obtain⟨uq,lqc⟩:=S1.out.c2 R (by omega) (q) (q+1) (by omega) (by omega) (enc yq)
     rw[← hxq] at lqa
     rw[← hyq] at lqb
     clear S1 hxq hyq
     go_big_region_o
     clear lqa lqb lqc sqa sqb
     generalize ((wr.setCell ⟨blk,off+(q),none⟩ (enc yq)).setCell ⟨blk,off+(q+1),none⟩ (enc xq)).drew=w3 at S2 ⊢
     go_wp2_with fail
     go_roundg (j-1-(q+1))
     case measure=>omega
     case rel=>exact⟨q+1,swp dk q (q+1),by go_num,by omega,by omega,by omega,by rw[size_swp];exact hds,(by show Rot _ _ _ _ _;have h:=hR.out;rw[HM.out] at h ⊢;exact rot_up (by omega) (by omega) h),S2⟩
    ·have hqz:¬ (q:Int)<(j:Int)-1:=by omega
     have hqe:q+1=j:=by omega
     subst hqe
     go_wp2_with fail
     (try simp only[Exit.inBlock,Exit.then]);refine bodyPost_ret (results_none rfl _ _ _) rfl ?_
     have q2:=H2.out
     have q3:=hL.out
     have q4:=hR.out
     rw[HM.out] at q2 q3 q4
     obtain⟨p1,p2⟩:=one_left HO.out (by omega) hjb (by omega) q2 q3.lo q3.hi q4
     exact⟨rfl,dk,hds,p1,p2,S1.out⟩
set_option maxHeartbeats 16000000 in
set_option maxRecDepth 1000000 in
theorem symMerge_right (enc:α→Value) (cf:α→α→Int) (hO:SWO (ltOf cf)) (g:Nat) (cb:Array Value) (blk off cap sz:Nat) (d0:Array α) (w0:World)
  (eg:∀ args w,(callFunc g args).run Tryz.prog w= .ok (.enter g args) w) (hcmp:CmpLays1 Tryz.prog g cb enc cf blk off sz w0)
  (R:Row1 enc w0 blk off d0) (hs:d0.size=sz) (hsz:sz<4611686018427387904) (a m b:Nat) (d:Array α) (w:World) (hd:d.size=sz) (S:SW enc w0 blk off d w) (ham:a+1<m) (hm:b=m+1) (hb:b≤sz) (hs1:SortedIn (ltOf cf) a m d) :
  Calls Tryz.prog 60 #[.slice (some ⟨blk,off,none⟩) sz cap,.int .i64 a,.int .i64 m,.int .i64 b,.func (.func g) #[] cb] w fun e w'=>e= .returned (.tuple #[])∧∃ d',d'.size=sz∧PermIn a b d d'∧SortedIn (ltOf cf) a b d'∧SW enc w0 blk off d' w':=by
 have mixed:Tryz.prog.follows .mixedOrders=true:=by kernel_rfl
 have a24:∀ w,(isAgg 3).run Tryz.prog w= .ok false w:=Tryz.isAgg3
 have z24:∀ w,(Go.sizeOf 3).run Tryz.prog w= .ok 1 w:=Tryz.sizeOf3
 have hcl0:=R.hO.cells
 simp only[Value.cells] at hcl0
 have hst:=R.hO.store Tryz.prog
 have HC:Aside _:=hcmp
 have HO:Hid (SWO (ltOf cf)):=hO
 clear hcmp hO
 have S0:Aside (SW enc w0 blk off d w):=S
 have H1:=Lib.hid hs1
 have HM:=Lib.hid hm
 have hg:(b:Int)-(m:Int)=1:=by omega
 have hg2:¬ (m:Int)-(a:Int)=1:=by omega
 have hmb:m<b:=by omega
 clear hm S hs1
 go_enter Tryz.func60,Tryz.ntmps60
 go_wp2_with fail
 rw[show ((m:Int)-(a:Int) == 1)=false from beq_false_of_ne hg2]
 clear hg hg2
 go_loopg [14,15] (m-a) (fun kx si sj wr=>∃ (i j:Nat),si= .int .i64 i∧sj= .int .i64 j∧a≤i∧i≤j∧j≤m∧j-i≤kx∧Hid (SrR (ltOf cf) a m i j d)∧Aside (SW enc w0 blk off d wr))
 case atStart=>exact⟨a,m,rfl,rfl,Nat.le_refl _,by omega,Nat.le_refl _,by omega,SrR.start d (by omega),S0⟩
 case round=>
  clear S0
  obtain⟨i,j,rfl,rfl,hai,hij,hjb,hkx,hL,S1⟩:=hrel
  by_cases hlt:i<j
  ·have hlz:(i:Int)<(j:Int):=by omega
   obtain⟨h,hh⟩:∃ h,h=(i+j)/2:=⟨_,rfl⟩
   have hh1:i≤h∧h<j:=by rw[hh];exact half_le i j hlt
   have hz:Hid (((i:Int)+(j:Int))/2=(h:Int)):=by show _=_;rw[hh];omega
   clear hh
   go_wp2_with fail
   rw[hz.out]
   clear hz
   cases hlv:ltOf cf d[m]! d[h]! with
   |false=>
    have eax1:((m:Int)).toNat=m:=by omega
    have pax1:(0:Int)≤(m:Int):=by omega
    have bax1:(m:Int)<(sz:Int):=by omega
    have rax1:IntKind.i64.wrap ((m:Int))=(m:Int):=by rw[IntKind.wrap_i64];omega
    have eay1:((h:Int)).toNat=h:=by omega
    have pay1:(0:Int)≤(h:Int):=by omega
    have bay1:(h:Int)<(sz:Int):=by omega
    have ray1:IntKind.i64.wrap ((h:Int))=(h:Int):=by rw[IntKind.wrap_i64];omega
    obtain⟨x1,hx1⟩:∃ z,z=d[m]! :=⟨_,rfl⟩
    obtain⟨y1,hy1⟩:∃ z,z=d[h]! :=⟨_,rfl⟩
    have l1a:=S1.out.cl R (by omega) (m) (by omega)
    have l1b:=S1.out.cl R (by omega) (h) (by omega)
    rw[← hx1] at l1a
    rw[← hy1] at l1b
    have hc1:=S1.out.cmp HC.out (by omega) x1 y1
    have hv1:¬ cf x1 y1<0:=by rw[hx1,hy1];exact of_decide_eq_false hlv
    have hd1:decide (cf x1 y1<0)=false:=decide_eq_false hv1
    clear hx1 hy1
    go_wp2_with fail
    go_quiet_grown (first | (go_at_fn g;refine Calls.grown_of (hc1 _ _)))
    have S2:Aside (SW enc w0 blk off d (grow (wr.drewN nq) osq)):=S1.out.grown nq osq
    clear l1a l1b hc1 S1
    generalize grow (wr.drewN nq) osq=w1 at S2 ⊢
    clear nq osq
    go_wp2_with fail
    go_roundg (j-(h+1))
    case measure=>omega
    case rel=>exact⟨h+1,j,by go_num,rfl,by omega,by omega,hjb,by omega,hL.out.up HO.out H1.out hh1.1 hh1.2 hlv,S2⟩
   |true=>
    have eax2:((m:Int)).toNat=m:=by omega
    have pax2:(0:Int)≤(m:Int):=by omega
    have bax2:(m:Int)<(sz:Int):=by omega
    have rax2:IntKind.i64.wrap ((m:Int))=(m:Int):=by rw[IntKind.wrap_i64];omega
    have eay2:((h:Int)).toNat=h:=by omega
    have pay2:(0:Int)≤(h:Int):=by omega
    have bay2:(h:Int)<(sz:Int):=by omega
    have ray2:IntKind.i64.wrap ((h:Int))=(h:Int):=by rw[IntKind.wrap_i64];omega
    obtain⟨x2,hx2⟩:∃ z,z=d[m]! :=⟨_,rfl⟩
    obtain⟨y2,hy2⟩:∃ z,z=d[h]! :=⟨_,rfl⟩
    have l2a:=S1.out.cl R (by omega) (m) (by omega)
    have l2b:=S1.out.cl R (by omega) (h) (by omega)
    rw[← hx2] at l2a
    rw[← hy2] at l2b
    have hc2:=S1.out.cmp HC.out (by omega) x2 y2
    have hv2:cf x2 y2<0:=by rw[hx2,hy2];exact of_decide_eq_true hlv
    have hd2:decide (cf x2 y2<0)=true:=decide_eq_true hv2
    clear hx2 hy2
    go_wp2_with fail
    go_quiet_grown (first | (go_at_fn g;refine Calls.grown_of (hc2 _ _)))
    have S2:Aside (SW enc w0 blk off d (grow (wr.drewN nq) osq)):=S1.out.grown nq osq
    clear l2a l2b hc2 S1
    generalize grow (wr.drewN nq) osq=w2 at S2 ⊢
    clear nq osq
    go_wp2_with fail
    go_roundg (h-i)
    case measure=>omega
    case rel=>exact⟨i,h,rfl,by go_num,hai,by omega,by omega,by omega,hL.out.down HO.out H1.out hh1.1 hh1.2 hlv,S2⟩
  ·have hlz:¬ (i:Int)<(j:Int):=by omega
   have hje:j=i:=by omega
   subst hje
   go_wp2_with fail
   go_loopg [17] (m-j) (fun kx sq wq=>∃ (q:Nat) (dk:Array α),sq= .int .i64 q∧j≤q∧q≤m∧q-j≤kx∧dk.size=sz∧Hid (Rot q m (m+1) d dk)∧Aside (SW enc w0 blk off dk wq))
   case atStart=>exact⟨m,d,rfl,hjb,Nat.le_refl _,Nat.le_refl _,hd,rot_id m d,S1⟩
   case round=>
    clear S1
    obtain⟨q,dk,rfl,hjq,hqm,hkq,hds,hR,S1⟩:=hrel
    by_cases hqlt:j<q
    ·have hqz:(j:Int)<(q:Int):=by omega
     go_wp2_with fail
     have eax3:((q:Int)).toNat=q:=by omega
     have pax3:(0:Int)≤(q:Int):=by omega
     have bax3:(q:Int)<(sz:Int):=by omega
     have rax3:IntKind.i64.wrap ((q:Int))=(q:Int):=by rw[IntKind.wrap_i64];omega
     have eay3:((q:Int)-1).toNat=q-1:=by omega
     have pay3:(0:Int)≤(q:Int)-1:=by omega
     have bay3:(q:Int)-1<(sz:Int):=by omega
     have ray3:IntKind.i64.wrap ((q:Int)-1)=(q:Int)-1:=by rw[IntKind.wrap_i64];omega
     obtain⟨xq,hxq⟩:∃ x,x=dk[q]! :=⟨_,rfl⟩
     obtain⟨yq,hyq⟩:∃ x,x=dk[q-1]! :=⟨_,rfl⟩
     have S2:Aside (SW enc w0 blk off (swp dk (q) (q-1)) ((wr.setCell ⟨blk,off+(q),none⟩ (enc yq)).setCell ⟨blk,off+(q-1),none⟩ (enc xq)).drew):=by rw[hxq,hyq];exact S1.out.swapped R (q) (q-1) (by omega) (by omega)
     have lqa:=S1.out.c1 R (by omega) (q) (by omega)
     have lqb:=S1.out.c1 R (by omega) (q-1) (by omega)
     have sqa:=S1.out.f1 R (by omega) (q) (by omega)
     have sqb:=S1.out.f1 R (by omega) (q-1) (by omega)
     obtain⟨uq,lqc⟩:=S1.out.c2 R (by omega) (q) (q-1) (by omega) (by omega) (enc yq)
     rw[← hxq] at lqa
     rw[← hyq] at lqb
     clear S1 hxq hyq
     go_big_region_o
     clear lqa lqb lqc sqa sqb
     generalize ((wr.setCell ⟨blk,off+(q),none⟩ (enc yq)).setCell ⟨blk,off+(q-1),none⟩ (enc xq)).drew=w3 at S2 ⊢
     go_wp2_with fail
     go_roundg (q-1-j)
     case measure=>omega
     case rel=>exact⟨q-1,swp dk q (q-1),by go_num,by omega,by omega,by omega,by rw[size_swp];exact hds,rot_down (by omega) hqm (by omega) hR.out,S2⟩
    ·have hqz:¬ (j:Int)<(q:Int):=by omega
     have hqe:q=j:=by omega
     subst hqe
     go_wp2_with fail
     (try simp only[Exit.inBlock,Exit.then]);refine bodyPost_ret (results_none rfl _ _ _) rfl ?_
     have q2:=H1.out
     have q3:=hL.out
     have q4:=hR.out
     obtain⟨p1,p2⟩:=one_right HO.out (by omega) hqm (by omega) q2 q3.lo q3.hi q4
     have q5:=HM.out
     subst q5
     exact⟨rfl,dk,hds,p1,p2,S1.out⟩
end Go.Proofs.YtmagoiniahpofaaGreat
namespace Go.Proofs.YtmagoiniahpofaaGreat
open Go Go.RowKit Go.Lib Go.Sort Go.Shelf
variable {α:Type} [Inhabited α]
set_option maxHeartbeats 16000000 in
set_option maxRecDepth 1000000 in
theorem symMerge_mid (enc:α→Value) (cf:α→α→Int) (hO:SWO (ltOf cf)) (g:Nat) (cb:Array Value) (blk off cap sz:Nat) (d0:Array α) (w0:World)
  (eg:∀ args w,(callFunc g args).run Tryz.prog w= .ok (.enter g args) w) (hcmp:CmpLays1 Tryz.prog g cb enc cf blk off sz w0)
  (R:Row1 enc w0 blk off d0) (hs:d0.size=sz) (hsz:sz<4611686018427387904) (N a m b:Nat) (d:Array α) (w:World) (hN:b-a≤N+1) (hd:d.size=sz) (S:SW enc w0 blk off d w) (ham2:a+1<m) (hmb2:m+1<b) (hb:b≤sz) (hs1:SortedIn (ltOf cf) a m d) (hs2:SortedIn (ltOf cf) m b d)
  (ih:∀ (a m b:Nat) (d:Array α) (w:World),b-a≤N→d.size=sz→SW enc w0 blk off d w→a<m→m<b→b≤sz→SortedIn (ltOf cf) a m d→SortedIn (ltOf cf) m b d→
   Calls Tryz.prog 60 #[.slice (some ⟨blk,off,none⟩) sz cap,.int .i64 a,.int .i64 m,.int .i64 b,.func (.func g) #[] cb] w fun e w'=>e= .returned (.tuple #[])∧∃ d',d'.size=sz∧PermIn a b d d'∧SortedIn (ltOf cf) a b d'∧SW enc w0 blk off d' w') :
  Calls Tryz.prog 60 #[.slice (some ⟨blk,off,none⟩) sz cap,.int .i64 a,.int .i64 m,.int .i64 b,.func (.func g) #[] cb] w fun e w'=>e= .returned (.tuple #[])∧∃ d',d'.size=sz∧PermIn a b d d'∧SortedIn (ltOf cf) a b d'∧SW enc w0 blk off d' w':=by
 have mixed:Tryz.prog.follows .mixedOrders=true:=by kernel_rfl
 have a24:∀ w,(isAgg 3).run Tryz.prog w= .ok false w:=Tryz.isAgg3
 have z24:∀ w,(Go.sizeOf 3).run Tryz.prog w= .ok 1 w:=Tryz.sizeOf3
 have hcl0:=R.hO.cells
 simp only[Value.cells] at hcl0
 have hst:=R.hO.store Tryz.prog
 have HC:Aside _:=hcmp
 have HO:Hid (SWO (ltOf cf)):=hO
 clear hcmp hO
 have S0:Aside (SW enc w0 blk off d w):=S
 have H1:=Lib.hid hs1
 have H2:=Lib.hid hs2
 have IH:Aside _:=ih
 obtain⟨mid,hmid⟩:∃ mid,mid=(a+b)/2:=⟨_,rfl⟩
 have HMZ:Hid (((a:Int)+(b:Int))/2=(mid:Int)):=by show _=_;rw[hmid];omega
 have HMID:=Lib.hid hmid
 have hm3:a<mid∧mid<b:=by omega
 have ham:a<m:=by omega
 have hmb:m<b:=by omega
 have hbm:mid<m→b≤mid+m:=by omega
 have hrm:midR m mid≤m:=by unfold midR;split<;>omega
 have HLE:Hid (midS a m b mid≤midR m mid):=mid_le ham hmb hmid
 have hg1:¬ (b:Int)-(m:Int)=1:=by omega
 have hg2:¬ (m:Int)-(a:Int)=1:=by omega
 clear S hs1 hs2 ih hmid
 go_enter Tryz.func60,Tryz.ntmps60
 by_cases hc:mid<m
 ·have hcz:((a:Int)+(b:Int))/2<(m:Int):=by have:=HMZ.out;omega
  go_wp2_with fail
  rw[HMZ.out]
  try rw[show ((m:Int)-(a:Int) == 1)=false from beq_false_of_ne hg2]
  try rw[show ((b:Int)-(m:Int) == 1)=false from beq_false_of_ne hg1]
  go_loopg [20,21] (midR m mid-midS a m b mid) (fun kx si sj wr=>∃ (s r:Nat),si= .int .i64 s∧sj= .int .i64 r∧midS a m b mid≤s∧s≤r∧r≤midR m mid∧r-s≤kx∧Hid (MidI (ltOf cf) (midS a m b mid) (midR m mid) s r (mid+m-1) d)∧Aside (SW enc w0 blk off d wr))
  case atStart=>exact⟨midS a m b mid,midR m mid,by unfold midS;first | (rw[if_pos hc];have:=hbm hc;congr 1;omega) | rw[if_neg hc],by unfold midR;first | rw[if_pos hc] | rw[if_neg hc],Nat.le_refl _,HLE.out,Nat.le_refl _,Nat.le_refl _,MidI.start _ d HLE.out,S0⟩
  case round=>
   clear S0
   obtain⟨s,r,rfl,rfl,hs0,hsr,hr0,hkx,HL,S1⟩:=hrel
   have hrb:r≤m:=by omega
   by_cases hlt:s<r
   ·have hlz:(s:Int)<(r:Int):=by omega
    obtain⟨c,hh⟩:∃ c,c=(s+r)/2:=⟨_,rfl⟩
    have hh1:s≤c∧c<r:=by rw[hh];exact half_le s r hlt
    have hz:Hid (((s:Int)+(r:Int))/2=(c:Int)):=by show _=_;rw[hh];omega
    clear hh
    obtain⟨m1,m2,m3,m4⟩:=mid_at ham hmb HMID.out (show midS a m b mid≤c by omega) (show c<midR m mid by omega)
    go_wp2_with fail
    rw[hz.out]
    clear hz
    have qa:(c:Int)≤(mid:Int)+(m:Int)-1:=by omega
    cases hlv:ltOf cf d[mid+m-1-c]! d[c]! with
    |false=>
     have eax1:((mid:Int)+(m:Int)-1-(c:Int)).toNat=mid+m-1-c:=by omega
     have pax1:(0:Int)≤(mid:Int)+(m:Int)-1-(c:Int):=by omega
     have bax1:(mid:Int)+(m:Int)-1-(c:Int)<(sz:Int):=by omega
     have rax1:IntKind.i64.wrap ((mid:Int)+(m:Int)-1-(c:Int))=(mid:Int)+(m:Int)-1-(c:Int):=by rw[IntKind.wrap_i64];omega
     have eay1:((c:Int)).toNat=c:=by omega
     have pay1:(0:Int)≤(c:Int):=by omega
     have bay1:(c:Int)<(sz:Int):=by omega
     have ray1:IntKind.i64.wrap ((c:Int))=(c:Int):=by rw[IntKind.wrap_i64];omega
     obtain⟨x1,hx1⟩:∃ z,z=d[mid+m-1-c]! :=⟨_,rfl⟩
     obtain⟨y1,hy1⟩:∃ z,z=d[c]! :=⟨_,rfl⟩
     have l1a:=S1.out.cl R (by omega) (mid+m-1-c) (by omega)
     have l1b:=S1.out.cl R (by omega) (c) (by omega)
     rw[← hx1] at l1a
     rw[← hy1] at l1b
     have hc1:=S1.out.cmp HC.out (by omega) x1 y1
     have hv1:¬ cf x1 y1<0:=by rw[hx1,hy1];exact of_decide_eq_false hlv
     have hd1:decide (cf x1 y1<0)=false:=decide_eq_false hv1
     clear hx1 hy1
     go_wp2_with fail
     go_quiet_grown (first | (go_at_fn g;refine Calls.grown_of (hc1 _ _)))
     have S2:Aside (SW enc w0 blk off d (grow (wr.drewN nq) osq)):=S1.out.grown nq osq
     clear l1a l1b hc1 S1
     generalize grow (wr.drewN nq) osq=w1 at S2 ⊢
     clear nq osq
     go_wp2_with fail
     go_roundg (r-(c+1))
     case measure=>omega
     case rel=>exact⟨c+1,r,by go_num,rfl,by omega,by omega,hr0,by omega,HL.out.up hh1.1 hh1.2 hlv,S2⟩
    |true=>
     have eax2:((mid:Int)+(m:Int)-1-(c:Int)).toNat=mid+m-1-c:=by omega
     have pax2:(0:Int)≤(mid:Int)+(m:Int)-1-(c:Int):=by omega
     have bax2:(mid:Int)+(m:Int)-1-(c:Int)<(sz:Int):=by omega
     have rax2:IntKind.i64.wrap ((mid:Int)+(m:Int)-1-(c:Int))=(mid:Int)+(m:Int)-1-(c:Int):=by rw[IntKind.wrap_i64];omega
     have eay2:((c:Int)).toNat=c:=by omega
     have pay2:(0:Int)≤(c:Int):=by omega
     have bay2:(c:Int)<(sz:Int):=by omega
     have ray2:IntKind.i64.wrap ((c:Int))=(c:Int):=by rw[IntKind.wrap_i64];omega
     obtain⟨x2,hx2⟩:∃ z,z=d[mid+m-1-c]! :=⟨_,rfl⟩
     obtain⟨y2,hy2⟩:∃ z,z=d[c]! :=⟨_,rfl⟩
     have l2a:=S1.out.cl R (by omega) (mid+m-1-c) (by omega)
     have l2b:=S1.out.cl R (by omega) (c) (by omega)
     rw[← hx2] at l2a
     rw[← hy2] at l2b
     have hc2:=S1.out.cmp HC.out (by omega) x2 y2
     have hv2:cf x2 y2<0:=by rw[hx2,hy2];exact of_decide_eq_true hlv
     have hd2:decide (cf x2 y2<0)=true:=decide_eq_true hv2
     clear hx2 hy2
     go_wp2_with fail
     go_quiet_grown (first | (go_at_fn g;refine Calls.grown_of (hc2 _ _)))
     have S2:Aside (SW enc w0 blk off d (grow (wr.drewN nq) osq)):=S1.out.grown nq osq
     clear l2a l2b hc2 S1
     generalize grow (wr.drewN nq) osq=w2 at S2 ⊢
     clear nq osq
     go_wp2_with fail
     go_roundg (c-s)
     case measure=>omega
     case rel=>exact⟨s,c,rfl,by go_num,hs0,by omega,by omega,by omega,HL.out.down hh1.1 hh1.2 hlv,S2⟩
   ·have hlz:¬ (s:Int)<(r:Int):=by omega
    have hre:s=r:=by omega
    subst hre
    obtain⟨g1,g2,g3,g4⟩:=mid_bounds HMID.out HL.out.s0s HL.out.rr0
    have HMI:Hid (Mid (ltOf cf) a m b mid s d):=mid_end HO.out HMID.out H1.out HL.out
    obtain⟨en,hen⟩:∃ en,mid+m-s=en:=⟨_,rfl⟩
    have hez:Hid ((mid:Int)+(m:Int)-(s:Int)=(en:Int)):=by show _=_;omega
    have e1:m≤en:=by omega
    have e2:en≤b:=by omega
    have e3:mid≤en:=by omega
    have e4:en+s=mid+m:=by omega
    have hen:=Lib.hid hen
    clear HL
    by_cases o1:s<m
    ·have o1z:(s:Int)<(m:Int):=by omega
     have o1d:decide ((s:Int)<(m:Int))=true:=decide_eq_true o1z
     by_cases o2:m<en
     ·have o2z:(m:Int)<(mid:Int)+(m:Int)-(s:Int):=by have:=hez.out;omega
      have o2d:decide ((m:Int)<(mid:Int)+(m:Int)-(s:Int))=true:=decide_eq_true o2z
      have h:=rotate_any enc (.func (.func g) #[] cb) blk off cap sz s m en d0 d w0 wr R hs hd S1.out (by omega) (by omega) (by omega) hsz
      rw[show ((en:Nat):Int)=(mid:Int)+(m:Int)-(s:Int) from hez.out.symm] at h
      have H:Aside _:=h
      clear h
      go_wp2_with fail
      refine Calls.mono H.out ?_
      clear H S1
      rintro e w7 ⟨rfl,d1,t1,t2,t3⟩
      have hrot1:Rot s m (mid+m-s) d d1:=by rw[hen.out];exact t2
      have S7:Aside _:=t3
      clear t2 t3
      obtain⟨p1,p2,p3,p4,p5,p6⟩:=rot_parts HO.out ham hmb HMID.out (by omega) H1.out H2.out g1 g2 g3 g4 HMI.out hrot1
      have HP1:=Lib.hid p1
      have HQ1:=Lib.hid p2
      have HQ2:=Lib.hid p3
      have HQ3:Hid (SortedIn (ltOf cf) mid en d1):=by show SortedIn _ _ _ _;rw[← hen.out];exact p4
      have HQ4:Hid (SortedIn (ltOf cf) en b d1):=by show SortedIn _ _ _ _;rw[← hen.out];exact p5
      have HX:=Lib.hid p6
      clear p1 p2 p3 p4 p5 p6 hrot1 HMI
      have hsd1:d1.size=sz:=by have:=HP1.out.1;omega
      by_cases l1:a<s
      ·have l1z:(a:Int)<(s:Int):=by omega
       have l1d:decide ((a:Int)<(s:Int))=true:=decide_eq_true l1z
       by_cases l2:s<mid
       ·have l2z:(s:Int)<(mid:Int):=by omega
        have l2d:decide ((s:Int)<(mid:Int))=true:=decide_eq_true l2z
        have h:=IH.out a s mid d1 w7 (by omega) (by have:=HP1.out.1;omega) S7.out (by omega) (by omega) (by omega) HQ1.out HQ2.out
        have H:Aside _:=h
        clear h
        go_wp2_with fail
        refine Calls.mono H.out ?_
        clear H S7
        rintro e w8 ⟨rfl,d2,t1,t2,t3,t4⟩
        have HP2:=Lib.hid t2
        have HS2:=Lib.hid t3
        have S8:Aside _:=t4
        clear t2 t3 t4
        by_cases r1:mid<en
        ·have r1z:(mid:Int)<(mid:Int)+(m:Int)-(s:Int):=by have:=hez.out;omega
         have r1d:decide ((mid:Int)<(mid:Int)+(m:Int)-(s:Int))=true:=decide_eq_true r1z
         by_cases r2:en<b
         ·have r2z:(mid:Int)+(m:Int)-(s:Int)<(b:Int):=by have:=hez.out;omega
          have r2d:decide ((mid:Int)+(m:Int)-(s:Int)<(b:Int))=true:=decide_eq_true r2z
          have h:=IH.out mid en b d2 w8 (by omega) (by have:=HP2.out.1;omega) S8.out (by omega) (by omega) hb (sorted_off HQ3.out HP2.out (.inr (Nat.le_refl _))) (sorted_off HQ4.out HP2.out (.inr (by omega)))
          rw[show ((en:Nat):Int)=(mid:Int)+(m:Int)-(s:Int) from hez.out.symm] at h
          have H:Aside _:=h
          clear h
          go_wp2_with fail
          refine Calls.mono H.out ?_
          clear H S8
          rintro e w9 ⟨rfl,d3,t1,t2,t3,t4⟩
          have T2:=Lib.hid t2
          have T3:=Lib.hid t3
          have T4:=Lib.hid t4
          clear t2 t3 t4
          go_wp2_with fail
          (try simp only[Exit.inBlock,Exit.then]);refine bodyPost_end (results_none rfl _ _ _) rfl ?_
          obtain⟨f1,f2⟩:=merge_end (lt:=ltOf cf) (d1:=d1) (d2:=d2) (d3:=d3) (a:=a) (mid:=mid) (b:=b) (by omega) (by omega) (by omega) HP2.out HS2.out T2.out T3.out HX.out
          exact⟨rfl,d3,by have:=f1.1;omega,permIn_trans _ _ _ _ _ HP1.out f1,f2,T4.out⟩
         ·have r2z:¬ (mid:Int)+(m:Int)-(s:Int)<(b:Int):=by have:=hez.out;omega
          have r2d:decide ((mid:Int)+(m:Int)-(s:Int)<(b:Int))=false:=decide_eq_false r2z
          have hee:en=b:=by omega
          go_wp2_with fail
          (try simp only[Exit.inBlock,Exit.then]);refine bodyPost_end (results_none rfl _ _ _) rfl ?_
          have q3:=sorted_off HQ3.out HP2.out (.inr (Nat.le_refl _))
          rw[hee] at q3
          obtain⟨f1,f2⟩:=merge_end (lt:=ltOf cf) (d1:=d1) (d2:=d2) (d3:=d2) (a:=a) (mid:=mid) (b:=b) (by omega) (by omega) (by omega) HP2.out HS2.out (permIn_refl _ _ _) q3 HX.out
          exact⟨rfl,d2,by have:=f1.1;omega,permIn_trans _ _ _ _ _ HP1.out f1,f2,S8.out⟩
        ·have r1z:¬ (mid:Int)<(mid:Int)+(m:Int)-(s:Int):=by have:=hez.out;omega
         have r1d:decide ((mid:Int)<(mid:Int)+(m:Int)-(s:Int))=false:=decide_eq_false r1z
         have hee:en=mid:=by omega
         go_wp2_with fail
         (try simp only[Exit.inBlock,Exit.then]);refine bodyPost_end (results_none rfl _ _ _) rfl ?_
         have q4:=sorted_off HQ4.out HP2.out (.inr (by omega))
         rw[hee] at q4
         obtain⟨f1,f2⟩:=merge_end (lt:=ltOf cf) (d1:=d1) (d2:=d2) (d3:=d2) (a:=a) (mid:=mid) (b:=b) (by omega) (by omega) (by omega) HP2.out HS2.out (permIn_refl _ _ _) q4 HX.out
         exact⟨rfl,d2,by have:=f1.1;omega,permIn_trans _ _ _ _ _ HP1.out f1,f2,S8.out⟩
       ·have l2z:¬ (s:Int)<(mid:Int):=by omega
        have l2d:decide ((s:Int)<(mid:Int))=false:=decide_eq_false l2z
        have hsm:s=mid:=by omega
        have q1:=HQ1.out
        rw[hsm] at q1
        obtain⟨d2,hd2⟩:∃ d2,d2=d1:=⟨_,rfl⟩
        have HP2:Hid (PermIn a mid d1 d2):=by rw[hd2];exact permIn_refl _ _ _
        rw[← hd2] at S7
        have HS2:Hid (SortedIn (ltOf cf) a mid d2):=by rw[hd2];exact q1
        clear hd2 q1 hsm
        by_cases r1:mid<en
        ·have r1z:(mid:Int)<(mid:Int)+(m:Int)-(s:Int):=by have:=hez.out;omega
         have r1d:decide ((mid:Int)<(mid:Int)+(m:Int)-(s:Int))=true:=decide_eq_true r1z
         by_cases r2:en<b
         ·have r2z:(mid:Int)+(m:Int)-(s:Int)<(b:Int):=by have:=hez.out;omega
          have r2d:decide ((mid:Int)+(m:Int)-(s:Int)<(b:Int))=true:=decide_eq_true r2z
          have h:=IH.out mid en b d2 w7 (by omega) (by have:=HP2.out.1;omega) S7.out (by omega) (by omega) hb (sorted_off HQ3.out HP2.out (.inr (Nat.le_refl _))) (sorted_off HQ4.out HP2.out (.inr (by omega)))
          rw[show ((en:Nat):Int)=(mid:Int)+(m:Int)-(s:Int) from hez.out.symm] at h
          have H:Aside _:=h
          clear h
          go_wp2_with fail
          refine Calls.mono H.out ?_
          clear H S7
          rintro e w9 ⟨rfl,d3,t1,t2,t3,t4⟩
          have T2:=Lib.hid t2
          have T3:=Lib.hid t3
          have T4:=Lib.hid t4
          clear t2 t3 t4
          go_wp2_with fail
          (try simp only[Exit.inBlock,Exit.then]);refine bodyPost_end (results_none rfl _ _ _) rfl ?_
          obtain⟨f1,f2⟩:=merge_end (lt:=ltOf cf) (d1:=d1) (d2:=d2) (d3:=d3) (a:=a) (mid:=mid) (b:=b) (by omega) (by omega) (by omega) HP2.out HS2.out T2.out T3.out HX.out
          exact⟨rfl,d3,by have:=f1.1;omega,permIn_trans _ _ _ _ _ HP1.out f1,f2,T4.out⟩
         ·have r2z:¬ (mid:Int)+(m:Int)-(s:Int)<(b:Int):=by have:=hez.out;omega
          have r2d:decide ((mid:Int)+(m:Int)-(s:Int)<(b:Int))=false:=decide_eq_false r2z
          have hee:en=b:=by omega
          go_wp2_with fail
          (try simp only[Exit.inBlock,Exit.then]);refine bodyPost_end (results_none rfl _ _ _) rfl ?_
          have q3:=sorted_off HQ3.out HP2.out (.inr (Nat.le_refl _))
          rw[hee] at q3
          obtain⟨f1,f2⟩:=merge_end (lt:=ltOf cf) (d1:=d1) (d2:=d2) (d3:=d2) (a:=a) (mid:=mid) (b:=b) (by omega) (by omega) (by omega) HP2.out HS2.out (permIn_refl _ _ _) q3 HX.out
          exact⟨rfl,d2,by have:=f1.1;omega,permIn_trans _ _ _ _ _ HP1.out f1,f2,S7.out⟩
        ·have r1z:¬ (mid:Int)<(mid:Int)+(m:Int)-(s:Int):=by have:=hez.out;omega
         have r1d:decide ((mid:Int)<(mid:Int)+(m:Int)-(s:Int))=false:=decide_eq_false r1z
         have hee:en=mid:=by omega
         go_wp2_with fail
         (try simp only[Exit.inBlock,Exit.then]);refine bodyPost_end (results_none rfl _ _ _) rfl ?_
         have q4:=sorted_off HQ4.out HP2.out (.inr (by omega))
         rw[hee] at q4
         obtain⟨f1,f2⟩:=merge_end (lt:=ltOf cf) (d1:=d1) (d2:=d2) (d3:=d2) (a:=a) (mid:=mid) (b:=b) (by omega) (by omega) (by omega) HP2.out HS2.out (permIn_refl _ _ _) q4 HX.out
         exact⟨rfl,d2,by have:=f1.1;omega,permIn_trans _ _ _ _ _ HP1.out f1,f2,S7.out⟩
      ·have l1z:¬ (a:Int)<(s:Int):=by omega
       have l1d:decide ((a:Int)<(s:Int))=false:=decide_eq_false l1z
       have hsa:s=a:=by omega
       have q2:=HQ2.out
       rw[hsa] at q2
       obtain⟨d2,hd2⟩:∃ d2,d2=d1:=⟨_,rfl⟩
       have HP2:Hid (PermIn a mid d1 d2):=by rw[hd2];exact permIn_refl _ _ _
       rw[← hd2] at S7
       have HS2:Hid (SortedIn (ltOf cf) a mid d2):=by rw[hd2];exact q2
       clear hd2 q2 hsa
       by_cases r1:mid<en
       ·have r1z:(mid:Int)<(mid:Int)+(m:Int)-(s:Int):=by have:=hez.out;omega
        have r1d:decide ((mid:Int)<(mid:Int)+(m:Int)-(s:Int))=true:=decide_eq_true r1z
        by_cases r2:en<b
        ·have r2z:(mid:Int)+(m:Int)-(s:Int)<(b:Int):=by have:=hez.out;omega
         have r2d:decide ((mid:Int)+(m:Int)-(s:Int)<(b:Int))=true:=decide_eq_true r2z
         have h:=IH.out mid en b d2 w7 (by omega) (by have:=HP2.out.1;omega) S7.out (by omega) (by omega) hb (sorted_off HQ3.out HP2.out (.inr (Nat.le_refl _))) (sorted_off HQ4.out HP2.out (.inr (by omega)))
         rw[show ((en:Nat):Int)=(mid:Int)+(m:Int)-(s:Int) from hez.out.symm] at h
         have H:Aside _:=h
         clear h
         go_wp2_with fail
         refine Calls.mono H.out ?_
         clear H S7
         rintro e w9 ⟨rfl,d3,t1,t2,t3,t4⟩
         have T2:=Lib.hid t2
         have T3:=Lib.hid t3
         have T4:=Lib.hid t4
         clear t2 t3 t4
         go_wp2_with fail
         (try simp only[Exit.inBlock,Exit.then]);refine bodyPost_end (results_none rfl _ _ _) rfl ?_
         obtain⟨f1,f2⟩:=merge_end (lt:=ltOf cf) (d1:=d1) (d2:=d2) (d3:=d3) (a:=a) (mid:=mid) (b:=b) (by omega) (by omega) (by omega) HP2.out HS2.out T2.out T3.out HX.out
         exact⟨rfl,d3,by have:=f1.1;omega,permIn_trans _ _ _ _ _ HP1.out f1,f2,T4.out⟩
        ·have r2z:¬ (mid:Int)+(m:Int)-(s:Int)<(b:Int):=by have:=hez.out;omega
         have r2d:decide ((mid:Int)+(m:Int)-(s:Int)<(b:Int))=false:=decide_eq_false r2z
         have hee:en=b:=by omega
         go_wp2_with fail
         (try simp only[Exit.inBlock,Exit.then]);refine bodyPost_end (results_none rfl _ _ _) rfl ?_
         have q3:=sorted_off HQ3.out HP2.out (.inr (Nat.le_refl _))
         rw[hee] at q3
         obtain⟨f1,f2⟩:=merge_end (lt:=ltOf cf) (d1:=d1) (d2:=d2) (d3:=d2) (a:=a) (mid:=mid) (b:=b) (by omega) (by omega) (by omega) HP2.out HS2.out (permIn_refl _ _ _) q3 HX.out
         exact⟨rfl,d2,by have:=f1.1;omega,permIn_trans _ _ _ _ _ HP1.out f1,f2,S7.out⟩
       ·have r1z:¬ (mid:Int)<(mid:Int)+(m:Int)-(s:Int):=by have:=hez.out;omega
        have r1d:decide ((mid:Int)<(mid:Int)+(m:Int)-(s:Int))=false:=decide_eq_false r1z
        have hee:en=mid:=by omega
        go_wp2_with fail
        (try simp only[Exit.inBlock,Exit.then]);refine bodyPost_end (results_none rfl _ _ _) rfl ?_
        have q4:=sorted_off HQ4.out HP2.out (.inr (by omega))
        rw[hee] at q4
        obtain⟨f1,f2⟩:=merge_end (lt:=ltOf cf) (d1:=d1) (d2:=d2) (d3:=d2) (a:=a) (mid:=mid) (b:=b) (by omega) (by omega) (by omega) HP2.out HS2.out (permIn_refl _ _ _) q4 HX.out
        exact⟨rfl,d2,by have:=f1.1;omega,permIn_trans _ _ _ _ _ HP1.out f1,f2,S7.out⟩
     ·have o2z:¬ (m:Int)<(mid:Int)+(m:Int)-(s:Int):=by have:=hez.out;omega
      have o2d:decide ((m:Int)<(mid:Int)+(m:Int)-(s:Int))=false:=decide_eq_false o2z
      obtain⟨d1,hd1⟩:∃ d1,d1=d:=⟨_,rfl⟩
      have hrot1:Rot s m (mid+m-s) d d1:=by rw[hd1];exact rot_skip d (by omega) g2 (by omega)
      rw[← hd1] at S1
      clear hd1
      obtain⟨p1,p2,p3,p4,p5,p6⟩:=rot_parts HO.out ham hmb HMID.out (by omega) H1.out H2.out g1 g2 g3 g4 HMI.out hrot1
      have HP1:=Lib.hid p1
      have HQ1:=Lib.hid p2
      have HQ2:=Lib.hid p3
      have HQ3:Hid (SortedIn (ltOf cf) mid en d1):=by show SortedIn _ _ _ _;rw[← hen.out];exact p4
      have HQ4:Hid (SortedIn (ltOf cf) en b d1):=by show SortedIn _ _ _ _;rw[← hen.out];exact p5
      have HX:=Lib.hid p6
      clear p1 p2 p3 p4 p5 p6 hrot1 HMI
      have hsd1:d1.size=sz:=by have:=HP1.out.1;omega
      by_cases l1:a<s
      ·have l1z:(a:Int)<(s:Int):=by omega
       have l1d:decide ((a:Int)<(s:Int))=true:=decide_eq_true l1z
       by_cases l2:s<mid
       ·have l2z:(s:Int)<(mid:Int):=by omega
        have l2d:decide ((s:Int)<(mid:Int))=true:=decide_eq_true l2z
        have h:=IH.out a s mid d1 wr (by omega) (by have:=HP1.out.1;omega) S1.out (by omega) (by omega) (by omega) HQ1.out HQ2.out
        have H:Aside _:=h
        clear h
        go_wp2_with fail
        refine Calls.mono H.out ?_
        clear H S1
        rintro e w8 ⟨rfl,d2,t1,t2,t3,t4⟩
        have HP2:=Lib.hid t2
        have HS2:=Lib.hid t3
        have S8:Aside _:=t4
        clear t2 t3 t4
        by_cases r1:mid<en
        ·have r1z:(mid:Int)<(mid:Int)+(m:Int)-(s:Int):=by have:=hez.out;omega
         have r1d:decide ((mid:Int)<(mid:Int)+(m:Int)-(s:Int))=true:=decide_eq_true r1z
         by_cases r2:en<b
         ·have r2z:(mid:Int)+(m:Int)-(s:Int)<(b:Int):=by have:=hez.out;omega
          have r2d:decide ((mid:Int)+(m:Int)-(s:Int)<(b:Int))=true:=decide_eq_true r2z
          have h:=IH.out mid en b d2 w8 (by omega) (by have:=HP2.out.1;omega) S8.out (by omega) (by omega) hb (sorted_off HQ3.out HP2.out (.inr (Nat.le_refl _))) (sorted_off HQ4.out HP2.out (.inr (by omega)))
          rw[show ((en:Nat):Int)=(mid:Int)+(m:Int)-(s:Int) from hez.out.symm] at h
          have H:Aside _:=h
          clear h
          go_wp2_with fail
          refine Calls.mono H.out ?_
          clear H S8
          rintro e w9 ⟨rfl,d3,t1,t2,t3,t4⟩
          have T2:=Lib.hid t2
          have T3:=Lib.hid t3
          have T4:=Lib.hid t4
          clear t2 t3 t4
          go_wp2_with fail
          (try simp only[Exit.inBlock,Exit.then]);refine bodyPost_end (results_none rfl _ _ _) rfl ?_
          obtain⟨f1,f2⟩:=merge_end (lt:=ltOf cf) (d1:=d1) (d2:=d2) (d3:=d3) (a:=a) (mid:=mid) (b:=b) (by omega) (by omega) (by omega) HP2.out HS2.out T2.out T3.out HX.out
          exact⟨rfl,d3,by have:=f1.1;omega,permIn_trans _ _ _ _ _ HP1.out f1,f2,T4.out⟩
         ·have r2z:¬ (mid:Int)+(m:Int)-(s:Int)<(b:Int):=by have:=hez.out;omega
          have r2d:decide ((mid:Int)+(m:Int)-(s:Int)<(b:Int))=false:=decide_eq_false r2z
          have hee:en=b:=by omega
          go_wp2_with fail
          (try simp only[Exit.inBlock,Exit.then]);refine bodyPost_end (results_none rfl _ _ _) rfl ?_
          have q3:=sorted_off HQ3.out HP2.out (.inr (Nat.le_refl _))
          rw[hee] at q3
          obtain⟨f1,f2⟩:=merge_end (lt:=ltOf cf) (d1:=d1) (d2:=d2) (d3:=d2) (a:=a) (mid:=mid) (b:=b) (by omega) (by omega) (by omega) HP2.out HS2.out (permIn_refl _ _ _) q3 HX.out
          exact⟨rfl,d2,by have:=f1.1;omega,permIn_trans _ _ _ _ _ HP1.out f1,f2,S8.out⟩
        ·have r1z:¬ (mid:Int)<(mid:Int)+(m:Int)-(s:Int):=by have:=hez.out;omega
         have r1d:decide ((mid:Int)<(mid:Int)+(m:Int)-(s:Int))=false:=decide_eq_false r1z
         have hee:en=mid:=by omega
         go_wp2_with fail
         (try simp only[Exit.inBlock,Exit.then]);refine bodyPost_end (results_none rfl _ _ _) rfl ?_
         have q4:=sorted_off HQ4.out HP2.out (.inr (by omega))
         rw[hee] at q4
         obtain⟨f1,f2⟩:=merge_end (lt:=ltOf cf) (d1:=d1) (d2:=d2) (d3:=d2) (a:=a) (mid:=mid) (b:=b) (by omega) (by omega) (by omega) HP2.out HS2.out (permIn_refl _ _ _) q4 HX.out
         exact⟨rfl,d2,by have:=f1.1;omega,permIn_trans _ _ _ _ _ HP1.out f1,f2,S8.out⟩
       ·have l2z:¬ (s:Int)<(mid:Int):=by omega
        have l2d:decide ((s:Int)<(mid:Int))=false:=decide_eq_false l2z
        have hsm:s=mid:=by omega
        have q1:=HQ1.out
        rw[hsm] at q1
        obtain⟨d2,hd2⟩:∃ d2,d2=d1:=⟨_,rfl⟩
        have HP2:Hid (PermIn a mid d1 d2):=by rw[hd2];exact permIn_refl _ _ _
        rw[← hd2] at S1
        have HS2:Hid (SortedIn (ltOf cf) a mid d2):=by rw[hd2];exact q1
        clear hd2 q1 hsm
        by_cases r1:mid<en
        ·have r1z:(mid:Int)<(mid:Int)+(m:Int)-(s:Int):=by have:=hez.out;omega
         have r1d:decide ((mid:Int)<(mid:Int)+(m:Int)-(s:Int))=true:=decide_eq_true r1z
         by_cases r2:en<b
         ·have r2z:(mid:Int)+(m:Int)-(s:Int)<(b:Int):=by have:=hez.out;omega
          have r2d:decide ((mid:Int)+(m:Int)-(s:Int)<(b:Int))=true:=decide_eq_true r2z
          have h:=IH.out mid en b d2 wr (by omega) (by have:=HP2.out.1;omega) S1.out (by omega) (by omega) hb (sorted_off HQ3.out HP2.out (.inr (Nat.le_refl _))) (sorted_off HQ4.out HP2.out (.inr (by omega)))
          rw[show ((en:Nat):Int)=(mid:Int)+(m:Int)-(s:Int) from hez.out.symm] at h
          have H:Aside _:=h
          clear h
          go_wp2_with fail
          refine Calls.mono H.out ?_
          clear H S1
          rintro e w9 ⟨rfl,d3,t1,t2,t3,t4⟩
          have T2:=Lib.hid t2
          have T3:=Lib.hid t3
          have T4:=Lib.hid t4
          clear t2 t3 t4
          go_wp2_with fail
          (try simp only[Exit.inBlock,Exit.then]);refine bodyPost_end (results_none rfl _ _ _) rfl ?_
          obtain⟨f1,f2⟩:=merge_end (lt:=ltOf cf) (d1:=d1) (d2:=d2) (d3:=d3) (a:=a) (mid:=mid) (b:=b) (by omega) (by omega) (by omega) HP2.out HS2.out T2.out T3.out HX.out
          exact⟨rfl,d3,by have:=f1.1;omega,permIn_trans _ _ _ _ _ HP1.out f1,f2,T4.out⟩
         ·have r2z:¬ (mid:Int)+(m:Int)-(s:Int)<(b:Int):=by have:=hez.out;omega
          have r2d:decide ((mid:Int)+(m:Int)-(s:Int)<(b:Int))=false:=decide_eq_false r2z
          have hee:en=b:=by omega
          go_wp2_with fail
          (try simp only[Exit.inBlock,Exit.then]);refine bodyPost_end (results_none rfl _ _ _) rfl ?_
          have q3:=sorted_off HQ3.out HP2.out (.inr (Nat.le_refl _))
          rw[hee] at q3
          obtain⟨f1,f2⟩:=merge_end (lt:=ltOf cf) (d1:=d1) (d2:=d2) (d3:=d2) (a:=a) (mid:=mid) (b:=b) (by omega) (by omega) (by omega) HP2.out HS2.out (permIn_refl _ _ _) q3 HX.out
          exact⟨rfl,d2,by have:=f1.1;omega,permIn_trans _ _ _ _ _ HP1.out f1,f2,S1.out⟩
        ·have r1z:¬ (mid:Int)<(mid:Int)+(m:Int)-(s:Int):=by have:=hez.out;omega
         have r1d:decide ((mid:Int)<(mid:Int)+(m:Int)-(s:Int))=false:=decide_eq_false r1z
         have hee:en=mid:=by omega
         go_wp2_with fail
         (try simp only[Exit.inBlock,Exit.then]);refine bodyPost_end (results_none rfl _ _ _) rfl ?_
         have q4:=sorted_off HQ4.out HP2.out (.inr (by omega))
         rw[hee] at q4
         obtain⟨f1,f2⟩:=merge_end (lt:=ltOf cf) (d1:=d1) (d2:=d2) (d3:=d2) (a:=a) (mid:=mid) (b:=b) (by omega) (by omega) (by omega) HP2.out HS2.out (permIn_refl _ _ _) q4 HX.out
         exact⟨rfl,d2,by have:=f1.1;omega,permIn_trans _ _ _ _ _ HP1.out f1,f2,S1.out⟩
      ·have l1z:¬ (a:Int)<(s:Int):=by omega
       have l1d:decide ((a:Int)<(s:Int))=false:=decide_eq_false l1z
       have hsa:s=a:=by omega
       have q2:=HQ2.out
       rw[hsa] at q2
       obtain⟨d2,hd2⟩:∃ d2,d2=d1:=⟨_,rfl⟩
       have HP2:Hid (PermIn a mid d1 d2):=by rw[hd2];exact permIn_refl _ _ _
       rw[← hd2] at S1
       have HS2:Hid (SortedIn (ltOf cf) a mid d2):=by rw[hd2];exact q2
       clear hd2 q2 hsa
       by_cases r1:mid<en
       ·have r1z:(mid:Int)<(mid:Int)+(m:Int)-(s:Int):=by have:=hez.out;omega
        have r1d:decide ((mid:Int)<(mid:Int)+(m:Int)-(s:Int))=true:=decide_eq_true r1z
        by_cases r2:en<b
        ·have r2z:(mid:Int)+(m:Int)-(s:Int)<(b:Int):=by have:=hez.out;omega
         have r2d:decide ((mid:Int)+(m:Int)-(s:Int)<(b:Int))=true:=decide_eq_true r2z
         have h:=IH.out mid en b d2 wr (by omega) (by have:=HP2.out.1;omega) S1.out (by omega) (by omega) hb (sorted_off HQ3.out HP2.out (.inr (Nat.le_refl _))) (sorted_off HQ4.out HP2.out (.inr (by omega)))
         rw[show ((en:Nat):Int)=(mid:Int)+(m:Int)-(s:Int) from hez.out.symm] at h
         have H:Aside _:=h
         clear h
         go_wp2_with fail
         refine Calls.mono H.out ?_
         clear H S1
         rintro e w9 ⟨rfl,d3,t1,t2,t3,t4⟩
         have T2:=Lib.hid t2
         have T3:=Lib.hid t3
         have T4:=Lib.hid t4
         clear t2 t3 t4
         go_wp2_with fail
         (try simp only[Exit.inBlock,Exit.then]);refine bodyPost_end (results_none rfl _ _ _) rfl ?_
         obtain⟨f1,f2⟩:=merge_end (lt:=ltOf cf) (d1:=d1) (d2:=d2) (d3:=d3) (a:=a) (mid:=mid) (b:=b) (by omega) (by omega) (by omega) HP2.out HS2.out T2.out T3.out HX.out
         exact⟨rfl,d3,by have:=f1.1;omega,permIn_trans _ _ _ _ _ HP1.out f1,f2,T4.out⟩
        ·have r2z:¬ (mid:Int)+(m:Int)-(s:Int)<(b:Int):=by have:=hez.out;omega
         have r2d:decide ((mid:Int)+(m:Int)-(s:Int)<(b:Int))=false:=decide_eq_false r2z
         have hee:en=b:=by omega
         go_wp2_with fail
         (try simp only[Exit.inBlock,Exit.then]);refine bodyPost_end (results_none rfl _ _ _) rfl ?_
         have q3:=sorted_off HQ3.out HP2.out (.inr (Nat.le_refl _))
         rw[hee] at q3
         obtain⟨f1,f2⟩:=merge_end (lt:=ltOf cf) (d1:=d1) (d2:=d2) (d3:=d2) (a:=a) (mid:=mid) (b:=b) (by omega) (by omega) (by omega) HP2.out HS2.out (permIn_refl _ _ _) q3 HX.out
         exact⟨rfl,d2,by have:=f1.1;omega,permIn_trans _ _ _ _ _ HP1.out f1,f2,S1.out⟩
       ·have r1z:¬ (mid:Int)<(mid:Int)+(m:Int)-(s:Int):=by have:=hez.out;omega
        have r1d:decide ((mid:Int)<(mid:Int)+(m:Int)-(s:Int))=false:=decide_eq_false r1z
        have hee:en=mid:=by omega
        go_wp2_with fail
        (try simp only[Exit.inBlock,Exit.then]);refine bodyPost_end (results_none rfl _ _ _) rfl ?_
        have q4:=sorted_off HQ4.out HP2.out (.inr (by omega))
        rw[hee] at q4
        obtain⟨f1,f2⟩:=merge_end (lt:=ltOf cf) (d1:=d1) (d2:=d2) (d3:=d2) (a:=a) (mid:=mid) (b:=b) (by omega) (by omega) (by omega) HP2.out HS2.out (permIn_refl _ _ _) q4 HX.out
        exact⟨rfl,d2,by have:=f1.1;omega,permIn_trans _ _ _ _ _ HP1.out f1,f2,S1.out⟩
    ·have o1z:¬ (s:Int)<(m:Int):=by omega
     have o1d:decide ((s:Int)<(m:Int))=false:=decide_eq_false o1z
     obtain⟨d1,hd1⟩:∃ d1,d1=d:=⟨_,rfl⟩
     have hrot1:Rot s m (mid+m-s) d d1:=by rw[hd1];exact rot_skip d (by omega) g2 (by omega)
     rw[← hd1] at S1
     clear hd1
     obtain⟨p1,p2,p3,p4,p5,p6⟩:=rot_parts HO.out ham hmb HMID.out (by omega) H1.out H2.out g1 g2 g3 g4 HMI.out hrot1
     have HP1:=Lib.hid p1
     have HQ1:=Lib.hid p2
     have HQ2:=Lib.hid p3
     have HQ3:Hid (SortedIn (ltOf cf) mid en d1):=by show SortedIn _ _ _ _;rw[← hen.out];exact p4
     have HQ4:Hid (SortedIn (ltOf cf) en b d1):=by show SortedIn _ _ _ _;rw[← hen.out];exact p5
     have HX:=Lib.hid p6
     clear p1 p2 p3 p4 p5 p6 hrot1 HMI
     have hsd1:d1.size=sz:=by have:=HP1.out.1;omega
     by_cases l1:a<s
     ·have l1z:(a:Int)<(s:Int):=by omega
      have l1d:decide ((a:Int)<(s:Int))=true:=decide_eq_true l1z
      by_cases l2:s<mid
      ·have l2z:(s:Int)<(mid:Int):=by omega
       have l2d:decide ((s:Int)<(mid:Int))=true:=decide_eq_true l2z
       have h:=IH.out a s mid d1 wr (by omega) (by have:=HP1.out.1;omega) S1.out (by omega) (by omega) (by omega) HQ1.out HQ2.out
       have H:Aside _:=h
       clear h
       go_wp2_with fail
       refine Calls.mono H.out ?_
       clear H S1
       rintro e w8 ⟨rfl,d2,t1,t2,t3,t4⟩
       have HP2:=Lib.hid t2
       have HS2:=Lib.hid t3
       have S8:Aside _:=t4
       clear t2 t3 t4
       by_cases r1:mid<en
       ·have r1z:(mid:Int)<(mid:Int)+(m:Int)-(s:Int):=by have:=hez.out;omega
        have r1d:decide ((mid:Int)<(mid:Int)+(m:Int)-(s:Int))=true:=decide_eq_true r1z
        by_cases r2:en<b
        ·have r2z:(mid:Int)+(m:Int)-(s:Int)<(b:Int):=by have:=hez.out;omega
         have r2d:decide ((mid:Int)+(m:Int)-(s:Int)<(b:Int))=true:=decide_eq_true r2z
         have h:=IH.out mid en b d2 w8 (by omega) (by have:=HP2.out.1;omega) S8.out (by omega) (by omega) hb (sorted_off HQ3.out HP2.out (.inr (Nat.le_refl _))) (sorted_off HQ4.out HP2.out (.inr (by omega)))
         rw[show ((en:Nat):Int)=(mid:Int)+(m:Int)-(s:Int) from hez.out.symm] at h
         have H:Aside _:=h
         clear h
         go_wp2_with fail
         refine Calls.mono H.out ?_
         clear H S8
         rintro e w9 ⟨rfl,d3,t1,t2,t3,t4⟩
         have T2:=Lib.hid t2
         have T3:=Lib.hid t3
         have T4:=Lib.hid t4
         clear t2 t3 t4
         go_wp2_with fail
         (try simp only[Exit.inBlock,Exit.then]);refine bodyPost_end (results_none rfl _ _ _) rfl ?_
         obtain⟨f1,f2⟩:=merge_end (lt:=ltOf cf) (d1:=d1) (d2:=d2) (d3:=d3) (a:=a) (mid:=mid) (b:=b) (by omega) (by omega) (by omega) HP2.out HS2.out T2.out T3.out HX.out
         exact⟨rfl,d3,by have:=f1.1;omega,permIn_trans _ _ _ _ _ HP1.out f1,f2,T4.out⟩
        ·have r2z:¬ (mid:Int)+(m:Int)-(s:Int)<(b:Int):=by have:=hez.out;omega
         have r2d:decide ((mid:Int)+(m:Int)-(s:Int)<(b:Int))=false:=decide_eq_false r2z
         have hee:en=b:=by omega
         go_wp2_with fail
         (try simp only[Exit.inBlock,Exit.then]);refine bodyPost_end (results_none rfl _ _ _) rfl ?_
         have q3:=sorted_off HQ3.out HP2.out (.inr (Nat.le_refl _))
         rw[hee] at q3
         obtain⟨f1,f2⟩:=merge_end (lt:=ltOf cf) (d1:=d1) (d2:=d2) (d3:=d2) (a:=a) (mid:=mid) (b:=b) (by omega) (by omega) (by omega) HP2.out HS2.out (permIn_refl _ _ _) q3 HX.out
         exact⟨rfl,d2,by have:=f1.1;omega,permIn_trans _ _ _ _ _ HP1.out f1,f2,S8.out⟩
       ·have r1z:¬ (mid:Int)<(mid:Int)+(m:Int)-(s:Int):=by have:=hez.out;omega
        have r1d:decide ((mid:Int)<(mid:Int)+(m:Int)-(s:Int))=false:=decide_eq_false r1z
        have hee:en=mid:=by omega
        go_wp2_with fail
        (try simp only[Exit.inBlock,Exit.then]);refine bodyPost_end (results_none rfl _ _ _) rfl ?_
        have q4:=sorted_off HQ4.out HP2.out (.inr (by omega))
        rw[hee] at q4
        obtain⟨f1,f2⟩:=merge_end (lt:=ltOf cf) (d1:=d1) (d2:=d2) (d3:=d2) (a:=a) (mid:=mid) (b:=b) (by omega) (by omega) (by omega) HP2.out HS2.out (permIn_refl _ _ _) q4 HX.out
        exact⟨rfl,d2,by have:=f1.1;omega,permIn_trans _ _ _ _ _ HP1.out f1,f2,S8.out⟩
      ·have l2z:¬ (s:Int)<(mid:Int):=by omega
       have l2d:decide ((s:Int)<(mid:Int))=false:=decide_eq_false l2z
       have hsm:s=mid:=by omega
       have q1:=HQ1.out
       rw[hsm] at q1
       obtain⟨d2,hd2⟩:∃ d2,d2=d1:=⟨_,rfl⟩
       have HP2:Hid (PermIn a mid d1 d2):=by rw[hd2];exact permIn_refl _ _ _
       rw[← hd2] at S1
       have HS2:Hid (SortedIn (ltOf cf) a mid d2):=by rw[hd2];exact q1
       clear hd2 q1 hsm
       by_cases r1:mid<en
       ·have r1z:(mid:Int)<(mid:Int)+(m:Int)-(s:Int):=by have:=hez.out;omega
        have r1d:decide ((mid:Int)<(mid:Int)+(m:Int)-(s:Int))=true:=decide_eq_true r1z
        by_cases r2:en<b
        ·have r2z:(mid:Int)+(m:Int)-(s:Int)<(b:Int):=by have:=hez.out;omega
         have r2d:decide ((mid:Int)+(m:Int)-(s:Int)<(b:Int))=true:=decide_eq_true r2z
         have h:=IH.out mid en b d2 wr (by omega) (by have:=HP2.out.1;omega) S1.out (by omega) (by omega) hb (sorted_off HQ3.out HP2.out (.inr (Nat.le_refl _))) (sorted_off HQ4.out HP2.out (.inr (by omega)))
         rw[show ((en:Nat):Int)=(mid:Int)+(m:Int)-(s:Int) from hez.out.symm] at h
         have H:Aside _:=h
         clear h
         go_wp2_with fail
         refine Calls.mono H.out ?_
         clear H S1
         rintro e w9 ⟨rfl,d3,t1,t2,t3,t4⟩
         have T2:=Lib.hid t2
         have T3:=Lib.hid t3
         have T4:=Lib.hid t4
         clear t2 t3 t4
         go_wp2_with fail
         (try simp only[Exit.inBlock,Exit.then]);refine bodyPost_end (results_none rfl _ _ _) rfl ?_
         obtain⟨f1,f2⟩:=merge_end (lt:=ltOf cf) (d1:=d1) (d2:=d2) (d3:=d3) (a:=a) (mid:=mid) (b:=b) (by omega) (by omega) (by omega) HP2.out HS2.out T2.out T3.out HX.out
         exact⟨rfl,d3,by have:=f1.1;omega,permIn_trans _ _ _ _ _ HP1.out f1,f2,T4.out⟩
        ·have r2z:¬ (mid:Int)+(m:Int)-(s:Int)<(b:Int):=by have:=hez.out;omega
         have r2d:decide ((mid:Int)+(m:Int)-(s:Int)<(b:Int))=false:=decide_eq_false r2z
         have hee:en=b:=by omega
         go_wp2_with fail
         (try simp only[Exit.inBlock,Exit.then]);refine bodyPost_end (results_none rfl _ _ _) rfl ?_
         have q3:=sorted_off HQ3.out HP2.out (.inr (Nat.le_refl _))
         rw[hee] at q3
         obtain⟨f1,f2⟩:=merge_end (lt:=ltOf cf) (d1:=d1) (d2:=d2) (d3:=d2) (a:=a) (mid:=mid) (b:=b) (by omega) (by omega) (by omega) HP2.out HS2.out (permIn_refl _ _ _) q3 HX.out
         exact⟨rfl,d2,by have:=f1.1;omega,permIn_trans _ _ _ _ _ HP1.out f1,f2,S1.out⟩
       ·have r1z:¬ (mid:Int)<(mid:Int)+(m:Int)-(s:Int):=by have:=hez.out;omega
        have r1d:decide ((mid:Int)<(mid:Int)+(m:Int)-(s:Int))=false:=decide_eq_false r1z
        have hee:en=mid:=by omega
        go_wp2_with fail
        (try simp only[Exit.inBlock,Exit.then]);refine bodyPost_end (results_none rfl _ _ _) rfl ?_
        have q4:=sorted_off HQ4.out HP2.out (.inr (by omega))
        rw[hee] at q4
        obtain⟨f1,f2⟩:=merge_end (lt:=ltOf cf) (d1:=d1) (d2:=d2) (d3:=d2) (a:=a) (mid:=mid) (b:=b) (by omega) (by omega) (by omega) HP2.out HS2.out (permIn_refl _ _ _) q4 HX.out
        exact⟨rfl,d2,by have:=f1.1;omega,permIn_trans _ _ _ _ _ HP1.out f1,f2,S1.out⟩
     ·have l1z:¬ (a:Int)<(s:Int):=by omega
      have l1d:decide ((a:Int)<(s:Int))=false:=decide_eq_false l1z
      have hsa:s=a:=by omega
      have q2:=HQ2.out
      rw[hsa] at q2
      obtain⟨d2,hd2⟩:∃ d2,d2=d1:=⟨_,rfl⟩
      have HP2:Hid (PermIn a mid d1 d2):=by rw[hd2];exact permIn_refl _ _ _
      rw[← hd2] at S1
      have HS2:Hid (SortedIn (ltOf cf) a mid d2):=by rw[hd2];exact q2
      clear hd2 q2 hsa
      by_cases r1:mid<en
      ·have r1z:(mid:Int)<(mid:Int)+(m:Int)-(s:Int):=by have:=hez.out;omega
       have r1d:decide ((mid:Int)<(mid:Int)+(m:Int)-(s:Int))=true:=decide_eq_true r1z
       by_cases r2:en<b
       ·have r2z:(mid:Int)+(m:Int)-(s:Int)<(b:Int):=by have:=hez.out;omega
        have r2d:decide ((mid:Int)+(m:Int)-(s:Int)<(b:Int))=true:=decide_eq_true r2z
        have h:=IH.out mid en b d2 wr (by omega) (by have:=HP2.out.1;omega) S1.out (by omega) (by omega) hb (sorted_off HQ3.out HP2.out (.inr (Nat.le_refl _))) (sorted_off HQ4.out HP2.out (.inr (by omega)))
        rw[show ((en:Nat):Int)=(mid:Int)+(m:Int)-(s:Int) from hez.out.symm] at h
        have H:Aside _:=h
        clear h
        go_wp2_with fail
        refine Calls.mono H.out ?_
        clear H S1
        rintro e w9 ⟨rfl,d3,t1,t2,t3,t4⟩
        have T2:=Lib.hid t2
        have T3:=Lib.hid t3
        have T4:=Lib.hid t4
        clear t2 t3 t4
        go_wp2_with fail
        (try simp only[Exit.inBlock,Exit.then]);refine bodyPost_end (results_none rfl _ _ _) rfl ?_
        obtain⟨f1,f2⟩:=merge_end (lt:=ltOf cf) (d1:=d1) (d2:=d2) (d3:=d3) (a:=a) (mid:=mid) (b:=b) (by omega) (by omega) (by omega) HP2.out HS2.out T2.out T3.out HX.out
        exact⟨rfl,d3,by have:=f1.1;omega,permIn_trans _ _ _ _ _ HP1.out f1,f2,T4.out⟩
       ·have r2z:¬ (mid:Int)+(m:Int)-(s:Int)<(b:Int):=by have:=hez.out;omega
        have r2d:decide ((mid:Int)+(m:Int)-(s:Int)<(b:Int))=false:=decide_eq_false r2z
        have hee:en=b:=by omega
        go_wp2_with fail
        (try simp only[Exit.inBlock,Exit.then]);refine bodyPost_end (results_none rfl _ _ _) rfl ?_
        have q3:=sorted_off HQ3.out HP2.out (.inr (Nat.le_refl _))
        rw[hee] at q3
        obtain⟨f1,f2⟩:=merge_end (lt:=ltOf cf) (d1:=d1) (d2:=d2) (d3:=d2) (a:=a) (mid:=mid) (b:=b) (by omega) (by omega) (by omega) HP2.out HS2.out (permIn_refl _ _ _) q3 HX.out
        exact⟨rfl,d2,by have:=f1.1;omega,permIn_trans _ _ _ _ _ HP1.out f1,f2,S1.out⟩
      ·have r1z:¬ (mid:Int)<(mid:Int)+(m:Int)-(s:Int):=by have:=hez.out;omega
       have r1d:decide ((mid:Int)<(mid:Int)+(m:Int)-(s:Int))=false:=decide_eq_false r1z
       have hee:en=mid:=by omega
       go_wp2_with fail
       (try simp only[Exit.inBlock,Exit.then]);refine bodyPost_end (results_none rfl _ _ _) rfl ?_
       have q4:=sorted_off HQ4.out HP2.out (.inr (by omega))
       rw[hee] at q4
       obtain⟨f1,f2⟩:=merge_end (lt:=ltOf cf) (d1:=d1) (d2:=d2) (d3:=d2) (a:=a) (mid:=mid) (b:=b) (by omega) (by omega) (by omega) HP2.out HS2.out (permIn_refl _ _ _) q4 HX.out
       exact⟨rfl,d2,by have:=f1.1;omega,permIn_trans _ _ _ _ _ HP1.out f1,f2,S1.out⟩
 ·have hcz:¬ ((a:Int)+(b:Int))/2<(m:Int):=by have:=HMZ.out;omega
  go_wp2_with fail
  rw[HMZ.out]
  try rw[show ((m:Int)-(a:Int) == 1)=false from beq_false_of_ne hg2]
  try rw[show ((b:Int)-(m:Int) == 1)=false from beq_false_of_ne hg1]
  go_loopg [20,21] (midR m mid-midS a m b mid) (fun kx si sj wr=>∃ (s r:Nat),si= .int .i64 s∧sj= .int .i64 r∧midS a m b mid≤s∧s≤r∧r≤midR m mid∧r-s≤kx∧Hid (MidI (ltOf cf) (midS a m b mid) (midR m mid) s r (mid+m-1) d)∧Aside (SW enc w0 blk off d wr))
  case atStart=>exact⟨midS a m b mid,midR m mid,by unfold midS;first | (rw[if_pos hc];have:=hbm hc;congr 1;omega) | rw[if_neg hc],by unfold midR;first | rw[if_pos hc] | rw[if_neg hc],Nat.le_refl _,HLE.out,Nat.le_refl _,Nat.le_refl _,MidI.start _ d HLE.out,S0⟩
  case round=>
   clear S0
   obtain⟨s,r,rfl,rfl,hs0,hsr,hr0,hkx,HL,S1⟩:=hrel
   have hrb:r≤m:=by omega
   by_cases hlt:s<r
   ·have hlz:(s:Int)<(r:Int):=by omega
    obtain⟨c,hh⟩:∃ c,c=(s+r)/2:=⟨_,rfl⟩
    have hh1:s≤c∧c<r:=by rw[hh];exact half_le s r hlt
    have hz:Hid (((s:Int)+(r:Int))/2=(c:Int)):=by show _=_;rw[hh];omega
    clear hh
    obtain⟨m1,m2,m3,m4⟩:=mid_at ham hmb HMID.out (show midS a m b mid≤c by omega) (show c<midR m mid by omega)
    go_wp2_with fail
    rw[hz.out]
    clear hz
    have qa:(c:Int)≤(mid:Int)+(m:Int)-1:=by omega
    cases hlv:ltOf cf d[mid+m-1-c]! d[c]! with
    |false=>
     have eax1:((mid:Int)+(m:Int)-1-(c:Int)).toNat=mid+m-1-c:=by omega
     have pax1:(0:Int)≤(mid:Int)+(m:Int)-1-(c:Int):=by omega
     have bax1:(mid:Int)+(m:Int)-1-(c:Int)<(sz:Int):=by omega
     have rax1:IntKind.i64.wrap ((mid:Int)+(m:Int)-1-(c:Int))=(mid:Int)+(m:Int)-1-(c:Int):=by rw[IntKind.wrap_i64];omega
     have eay1:((c:Int)).toNat=c:=by omega
     have pay1:(0:Int)≤(c:Int):=by omega
     have bay1:(c:Int)<(sz:Int):=by omega
     have ray1:IntKind.i64.wrap ((c:Int))=(c:Int):=by rw[IntKind.wrap_i64];omega
     obtain⟨x1,hx1⟩:∃ z,z=d[mid+m-1-c]! :=⟨_,rfl⟩
     obtain⟨y1,hy1⟩:∃ z,z=d[c]! :=⟨_,rfl⟩
     have l1a:=S1.out.cl R (by omega) (mid+m-1-c) (by omega)
     have l1b:=S1.out.cl R (by omega) (c) (by omega)
     rw[← hx1] at l1a
     rw[← hy1] at l1b
     have hc1:=S1.out.cmp HC.out (by omega) x1 y1
     have hv1:¬ cf x1 y1<0:=by rw[hx1,hy1];exact of_decide_eq_false hlv
     have hd1:decide (cf x1 y1<0)=false:=decide_eq_false hv1
     clear hx1 hy1
     go_wp2_with fail
     go_quiet_grown (first | (go_at_fn g;refine Calls.grown_of (hc1 _ _)))
     have S2:Aside (SW enc w0 blk off d (grow (wr.drewN nq) osq)):=S1.out.grown nq osq
     clear l1a l1b hc1 S1
     generalize grow (wr.drewN nq) osq=w1 at S2 ⊢
     clear nq osq
     go_wp2_with fail
     go_roundg (r-(c+1))
     case measure=>omega
     case rel=>exact⟨c+1,r,by go_num,rfl,by omega,by omega,hr0,by omega,HL.out.up hh1.1 hh1.2 hlv,S2⟩
    |true=>
     have eax2:((mid:Int)+(m:Int)-1-(c:Int)).toNat=mid+m-1-c:=by omega
     have pax2:(0:Int)≤(mid:Int)+(m:Int)-1-(c:Int):=by omega
     have bax2:(mid:Int)+(m:Int)-1-(c:Int)<(sz:Int):=by omega
     have rax2:IntKind.i64.wrap ((mid:Int)+(m:Int)-1-(c:Int))=(mid:Int)+(m:Int)-1-(c:Int):=by rw[IntKind.wrap_i64];omega
     have eay2:((c:Int)).toNat=c:=by omega
     have pay2:(0:Int)≤(c:Int):=by omega
     have bay2:(c:Int)<(sz:Int):=by omega
     have ray2:IntKind.i64.wrap ((c:Int))=(c:Int):=by rw[IntKind.wrap_i64];omega
     obtain⟨x2,hx2⟩:∃ z,z=d[mid+m-1-c]! :=⟨_,rfl⟩
     obtain⟨y2,hy2⟩:∃ z,z=d[c]! :=⟨_,rfl⟩
     have l2a:=S1.out.cl R (by omega) (mid+m-1-c) (by omega)
     have l2b:=S1.out.cl R (by omega) (c) (by omega)
     rw[← hx2] at l2a
     rw[← hy2] at l2b
     have hc2:=S1.out.cmp HC.out (by omega) x2 y2
     have hv2:cf x2 y2<0:=by rw[hx2,hy2];exact of_decide_eq_true hlv
     have hd2:decide (cf x2 y2<0)=true:=decide_eq_true hv2
     clear hx2 hy2
     go_wp2_with fail
     go_quiet_grown (first | (go_at_fn g;refine Calls.grown_of (hc2 _ _)))
     have S2:Aside (SW enc w0 blk off d (grow (wr.drewN nq) osq)):=S1.out.grown nq osq
     clear l2a l2b hc2 S1
     generalize grow (wr.drewN nq) osq=w2 at S2 ⊢
     clear nq osq
     go_wp2_with fail
     go_roundg (c-s)
     case measure=>omega
     case rel=>exact⟨s,c,rfl,by go_num,hs0,by omega,by omega,by omega,HL.out.down hh1.1 hh1.2 hlv,S2⟩
   ·have hlz:¬ (s:Int)<(r:Int):=by omega
    have hre:s=r:=by omega
    subst hre
    obtain⟨g1,g2,g3,g4⟩:=mid_bounds HMID.out HL.out.s0s HL.out.rr0
    have HMI:Hid (Mid (ltOf cf) a m b mid s d):=mid_end HO.out HMID.out H1.out HL.out
    obtain⟨en,hen⟩:∃ en,mid+m-s=en:=⟨_,rfl⟩
    have hez:Hid ((mid:Int)+(m:Int)-(s:Int)=(en:Int)):=by show _=_;omega
    have e1:m≤en:=by omega
    have e2:en≤b:=by omega
    have e3:mid≤en:=by omega
    have e4:en+s=mid+m:=by omega
    have hen:=Lib.hid hen
    clear HL
    by_cases o1:s<m
    ·have o1z:(s:Int)<(m:Int):=by omega
     have o1d:decide ((s:Int)<(m:Int))=true:=decide_eq_true o1z
     by_cases o2:m<en
     ·have o2z:(m:Int)<(mid:Int)+(m:Int)-(s:Int):=by have:=hez.out;omega
      have o2d:decide ((m:Int)<(mid:Int)+(m:Int)-(s:Int))=true:=decide_eq_true o2z
      have h:=rotate_any enc (.func (.func g) #[] cb) blk off cap sz s m en d0 d w0 wr R hs hd S1.out (by omega) (by omega) (by omega) hsz
      rw[show ((en:Nat):Int)=(mid:Int)+(m:Int)-(s:Int) from hez.out.symm] at h
      have H:Aside _:=h
      clear h
      go_wp2_with fail
      refine Calls.mono H.out ?_
      clear H S1
      rintro e w7 ⟨rfl,d1,t1,t2,t3⟩
      have hrot1:Rot s m (mid+m-s) d d1:=by rw[hen.out];exact t2
      have S7:Aside _:=t3
      clear t2 t3
      obtain⟨p1,p2,p3,p4,p5,p6⟩:=rot_parts HO.out ham hmb HMID.out (by omega) H1.out H2.out g1 g2 g3 g4 HMI.out hrot1
      have HP1:=Lib.hid p1
      have HQ1:=Lib.hid p2
      have HQ2:=Lib.hid p3
      have HQ3:Hid (SortedIn (ltOf cf) mid en d1):=by show SortedIn _ _ _ _;rw[← hen.out];exact p4
      have HQ4:Hid (SortedIn (ltOf cf) en b d1):=by show SortedIn _ _ _ _;rw[← hen.out];exact p5
      have HX:=Lib.hid p6
      clear p1 p2 p3 p4 p5 p6 hrot1 HMI
      have hsd1:d1.size=sz:=by have:=HP1.out.1;omega
      by_cases l1:a<s
      ·have l1z:(a:Int)<(s:Int):=by omega
       have l1d:decide ((a:Int)<(s:Int))=true:=decide_eq_true l1z
       by_cases l2:s<mid
       ·have l2z:(s:Int)<(mid:Int):=by omega
        have l2d:decide ((s:Int)<(mid:Int))=true:=decide_eq_true l2z
        have h:=IH.out a s mid d1 w7 (by omega) (by have:=HP1.out.1;omega) S7.out (by omega) (by omega) (by omega) HQ1.out HQ2.out
        have H:Aside _:=h
        clear h
        go_wp2_with fail
        refine Calls.mono H.out ?_
        clear H S7
        rintro e w8 ⟨rfl,d2,t1,t2,t3,t4⟩
        have HP2:=Lib.hid t2
        have HS2:=Lib.hid t3
        have S8:Aside _:=t4
        clear t2 t3 t4
        by_cases r1:mid<en
        ·have r1z:(mid:Int)<(mid:Int)+(m:Int)-(s:Int):=by have:=hez.out;omega
         have r1d:decide ((mid:Int)<(mid:Int)+(m:Int)-(s:Int))=true:=decide_eq_true r1z
         by_cases r2:en<b
         ·have r2z:(mid:Int)+(m:Int)-(s:Int)<(b:Int):=by have:=hez.out;omega
          have r2d:decide ((mid:Int)+(m:Int)-(s:Int)<(b:Int))=true:=decide_eq_true r2z
          have h:=IH.out mid en b d2 w8 (by omega) (by have:=HP2.out.1;omega) S8.out (by omega) (by omega) hb (sorted_off HQ3.out HP2.out (.inr (Nat.le_refl _))) (sorted_off HQ4.out HP2.out (.inr (by omega)))
          rw[show ((en:Nat):Int)=(mid:Int)+(m:Int)-(s:Int) from hez.out.symm] at h
          have H:Aside _:=h
          clear h
          go_wp2_with fail
          refine Calls.mono H.out ?_
          clear H S8
          rintro e w9 ⟨rfl,d3,t1,t2,t3,t4⟩
          have T2:=Lib.hid t2
          have T3:=Lib.hid t3
          have T4:=Lib.hid t4
          clear t2 t3 t4
          go_wp2_with fail
          (try simp only[Exit.inBlock,Exit.then]);refine bodyPost_end (results_none rfl _ _ _) rfl ?_
          obtain⟨f1,f2⟩:=merge_end (lt:=ltOf cf) (d1:=d1) (d2:=d2) (d3:=d3) (a:=a) (mid:=mid) (b:=b) (by omega) (by omega) (by omega) HP2.out HS2.out T2.out T3.out HX.out
          exact⟨rfl,d3,by have:=f1.1;omega,permIn_trans _ _ _ _ _ HP1.out f1,f2,T4.out⟩
         ·have r2z:¬ (mid:Int)+(m:Int)-(s:Int)<(b:Int):=by have:=hez.out;omega
          have r2d:decide ((mid:Int)+(m:Int)-(s:Int)<(b:Int))=false:=decide_eq_false r2z
          have hee:en=b:=by omega
          go_wp2_with fail
          (try simp only[Exit.inBlock,Exit.then]);refine bodyPost_end (results_none rfl _ _ _) rfl ?_
          have q3:=sorted_off HQ3.out HP2.out (.inr (Nat.le_refl _))
          rw[hee] at q3
          obtain⟨f1,f2⟩:=merge_end (lt:=ltOf cf) (d1:=d1) (d2:=d2) (d3:=d2) (a:=a) (mid:=mid) (b:=b) (by omega) (by omega) (by omega) HP2.out HS2.out (permIn_refl _ _ _) q3 HX.out
          exact⟨rfl,d2,by have:=f1.1;omega,permIn_trans _ _ _ _ _ HP1.out f1,f2,S8.out⟩
        ·have r1z:¬ (mid:Int)<(mid:Int)+(m:Int)-(s:Int):=by have:=hez.out;omega
         have r1d:decide ((mid:Int)<(mid:Int)+(m:Int)-(s:Int))=false:=decide_eq_false r1z
         have hee:en=mid:=by omega
         go_wp2_with fail
         (try simp only[Exit.inBlock,Exit.then]);refine bodyPost_end (results_none rfl _ _ _) rfl ?_
         have q4:=sorted_off HQ4.out HP2.out (.inr (by omega))
         rw[hee] at q4
         obtain⟨f1,f2⟩:=merge_end (lt:=ltOf cf) (d1:=d1) (d2:=d2) (d3:=d2) (a:=a) (mid:=mid) (b:=b) (by omega) (by omega) (by omega) HP2.out HS2.out (permIn_refl _ _ _) q4 HX.out
         exact⟨rfl,d2,by have:=f1.1;omega,permIn_trans _ _ _ _ _ HP1.out f1,f2,S8.out⟩
       ·have l2z:¬ (s:Int)<(mid:Int):=by omega
        have l2d:decide ((s:Int)<(mid:Int))=false:=decide_eq_false l2z
        have hsm:s=mid:=by omega
        have q1:=HQ1.out
        rw[hsm] at q1
        obtain⟨d2,hd2⟩:∃ d2,d2=d1:=⟨_,rfl⟩
        have HP2:Hid (PermIn a mid d1 d2):=by rw[hd2];exact permIn_refl _ _ _
        rw[← hd2] at S7
        have HS2:Hid (SortedIn (ltOf cf) a mid d2):=by rw[hd2];exact q1
        clear hd2 q1 hsm
        by_cases r1:mid<en
        ·have r1z:(mid:Int)<(mid:Int)+(m:Int)-(s:Int):=by have:=hez.out;omega
         have r1d:decide ((mid:Int)<(mid:Int)+(m:Int)-(s:Int))=true:=decide_eq_true r1z
         by_cases r2:en<b
         ·have r2z:(mid:Int)+(m:Int)-(s:Int)<(b:Int):=by have:=hez.out;omega
          have r2d:decide ((mid:Int)+(m:Int)-(s:Int)<(b:Int))=true:=decide_eq_true r2z
          have h:=IH.out mid en b d2 w7 (by omega) (by have:=HP2.out.1;omega) S7.out (by omega) (by omega) hb (sorted_off HQ3.out HP2.out (.inr (Nat.le_refl _))) (sorted_off HQ4.out HP2.out (.inr (by omega)))
          rw[show ((en:Nat):Int)=(mid:Int)+(m:Int)-(s:Int) from hez.out.symm] at h
          have H:Aside _:=h
          clear h
          go_wp2_with fail
          refine Calls.mono H.out ?_
          clear H S7
          rintro e w9 ⟨rfl,d3,t1,t2,t3,t4⟩
          have T2:=Lib.hid t2
          have T3:=Lib.hid t3
          have T4:=Lib.hid t4
          clear t2 t3 t4
          go_wp2_with fail
          (try simp only[Exit.inBlock,Exit.then]);refine bodyPost_end (results_none rfl _ _ _) rfl ?_
          obtain⟨f1,f2⟩:=merge_end (lt:=ltOf cf) (d1:=d1) (d2:=d2) (d3:=d3) (a:=a) (mid:=mid) (b:=b) (by omega) (by omega) (by omega) HP2.out HS2.out T2.out T3.out HX.out
          exact⟨rfl,d3,by have:=f1.1;omega,permIn_trans _ _ _ _ _ HP1.out f1,f2,T4.out⟩
         ·have r2z:¬ (mid:Int)+(m:Int)-(s:Int)<(b:Int):=by have:=hez.out;omega
          have r2d:decide ((mid:Int)+(m:Int)-(s:Int)<(b:Int))=false:=decide_eq_false r2z
          have hee:en=b:=by omega
          go_wp2_with fail
          (try simp only[Exit.inBlock,Exit.then]);refine bodyPost_end (results_none rfl _ _ _) rfl ?_
          have q3:=sorted_off HQ3.out HP2.out (.inr (Nat.le_refl _))
          rw[hee] at q3
          obtain⟨f1,f2⟩:=merge_end (lt:=ltOf cf) (d1:=d1) (d2:=d2) (d3:=d2) (a:=a) (mid:=mid) (b:=b) (by omega) (by omega) (by omega) HP2.out HS2.out (permIn_refl _ _ _) q3 HX.out
          exact⟨rfl,d2,by have:=f1.1;omega,permIn_trans _ _ _ _ _ HP1.out f1,f2,S7.out⟩
        ·have r1z:¬ (mid:Int)<(mid:Int)+(m:Int)-(s:Int):=by have:=hez.out;omega
         have r1d:decide ((mid:Int)<(mid:Int)+(m:Int)-(s:Int))=false:=decide_eq_false r1z
         have hee:en=mid:=by omega
         go_wp2_with fail
         (try simp only[Exit.inBlock,Exit.then]);refine bodyPost_end (results_none rfl _ _ _) rfl ?_
         have q4:=sorted_off HQ4.out HP2.out (.inr (by omega))
         rw[hee] at q4
         obtain⟨f1,f2⟩:=merge_end (lt:=ltOf cf) (d1:=d1) (d2:=d2) (d3:=d2) (a:=a) (mid:=mid) (b:=b) (by omega) (by omega) (by omega) HP2.out HS2.out (permIn_refl _ _ _) q4 HX.out
         exact⟨rfl,d2,by have:=f1.1;omega,permIn_trans _ _ _ _ _ HP1.out f1,f2,S7.out⟩
      ·have l1z:¬ (a:Int)<(s:Int):=by omega
       have l1d:decide ((a:Int)<(s:Int))=false:=decide_eq_false l1z
       have hsa:s=a:=by omega
       have q2:=HQ2.out
       rw[hsa] at q2
       obtain⟨d2,hd2⟩:∃ d2,d2=d1:=⟨_,rfl⟩
       have HP2:Hid (PermIn a mid d1 d2):=by rw[hd2];exact permIn_refl _ _ _
       rw[← hd2] at S7
       have HS2:Hid (SortedIn (ltOf cf) a mid d2):=by rw[hd2];exact q2
       clear hd2 q2 hsa
       by_cases r1:mid<en
       ·have r1z:(mid:Int)<(mid:Int)+(m:Int)-(s:Int):=by have:=hez.out;omega
        have r1d:decide ((mid:Int)<(mid:Int)+(m:Int)-(s:Int))=true:=decide_eq_true r1z
        by_cases r2:en<b
        ·have r2z:(mid:Int)+(m:Int)-(s:Int)<(b:Int):=by have:=hez.out;omega
         have r2d:decide ((mid:Int)+(m:Int)-(s:Int)<(b:Int))=true:=decide_eq_true r2z
         have h:=IH.out mid en b d2 w7 (by omega) (by have:=HP2.out.1;omega) S7.out (by omega) (by omega) hb (sorted_off HQ3.out HP2.out (.inr (Nat.le_refl _))) (sorted_off HQ4.out HP2.out (.inr (by omega)))
         rw[show ((en:Nat):Int)=(mid:Int)+(m:Int)-(s:Int) from hez.out.symm] at h
         have H:Aside _:=h
         clear h
         go_wp2_with fail
         refine Calls.mono H.out ?_
         clear H S7
         rintro e w9 ⟨rfl,d3,t1,t2,t3,t4⟩
         have T2:=Lib.hid t2
         have T3:=Lib.hid t3
         have T4:=Lib.hid t4
         clear t2 t3 t4
         go_wp2_with fail
         (try simp only[Exit.inBlock,Exit.then]);refine bodyPost_end (results_none rfl _ _ _) rfl ?_
         obtain⟨f1,f2⟩:=merge_end (lt:=ltOf cf) (d1:=d1) (d2:=d2) (d3:=d3) (a:=a) (mid:=mid) (b:=b) (by omega) (by omega) (by omega) HP2.out HS2.out T2.out T3.out HX.out
         exact⟨rfl,d3,by have:=f1.1;omega,permIn_trans _ _ _ _ _ HP1.out f1,f2,T4.out⟩
        ·have r2z:¬ (mid:Int)+(m:Int)-(s:Int)<(b:Int):=by have:=hez.out;omega
         have r2d:decide ((mid:Int)+(m:Int)-(s:Int)<(b:Int))=false:=decide_eq_false r2z
         have hee:en=b:=by omega
         go_wp2_with fail
         (try simp only[Exit.inBlock,Exit.then]);refine bodyPost_end (results_none rfl _ _ _) rfl ?_
         have q3:=sorted_off HQ3.out HP2.out (.inr (Nat.le_refl _))
         rw[hee] at q3
         obtain⟨f1,f2⟩:=merge_end (lt:=ltOf cf) (d1:=d1) (d2:=d2) (d3:=d2) (a:=a) (mid:=mid) (b:=b) (by omega) (by omega) (by omega) HP2.out HS2.out (permIn_refl _ _ _) q3 HX.out
         exact⟨rfl,d2,by have:=f1.1;omega,permIn_trans _ _ _ _ _ HP1.out f1,f2,S7.out⟩
       ·have r1z:¬ (mid:Int)<(mid:Int)+(m:Int)-(s:Int):=by have:=hez.out;omega
        have r1d:decide ((mid:Int)<(mid:Int)+(m:Int)-(s:Int))=false:=decide_eq_false r1z
        have hee:en=mid:=by omega
        go_wp2_with fail
        (try simp only[Exit.inBlock,Exit.then]);refine bodyPost_end (results_none rfl _ _ _) rfl ?_
        have q4:=sorted_off HQ4.out HP2.out (.inr (by omega))
        rw[hee] at q4
        obtain⟨f1,f2⟩:=merge_end (lt:=ltOf cf) (d1:=d1) (d2:=d2) (d3:=d2) (a:=a) (mid:=mid) (b:=b) (by omega) (by omega) (by omega) HP2.out HS2.out (permIn_refl _ _ _) q4 HX.out
        exact⟨rfl,d2,by have:=f1.1;omega,permIn_trans _ _ _ _ _ HP1.out f1,f2,S7.out⟩
     ·have o2z:¬ (m:Int)<(mid:Int)+(m:Int)-(s:Int):=by have:=hez.out;omega
      have o2d:decide ((m:Int)<(mid:Int)+(m:Int)-(s:Int))=false:=decide_eq_false o2z
      obtain⟨d1,hd1⟩:∃ d1,d1=d:=⟨_,rfl⟩
      have hrot1:Rot s m (mid+m-s) d d1:=by rw[hd1];exact rot_skip d (by omega) g2 (by omega)
      rw[← hd1] at S1
      clear hd1
      obtain⟨p1,p2,p3,p4,p5,p6⟩:=rot_parts HO.out ham hmb HMID.out (by omega) H1.out H2.out g1 g2 g3 g4 HMI.out hrot1
      have HP1:=Lib.hid p1
      have HQ1:=Lib.hid p2
      have HQ2:=Lib.hid p3
      have HQ3:Hid (SortedIn (ltOf cf) mid en d1):=by show SortedIn _ _ _ _;rw[← hen.out];exact p4
      have HQ4:Hid (SortedIn (ltOf cf) en b d1):=by show SortedIn _ _ _ _;rw[← hen.out];exact p5
      have HX:=Lib.hid p6
      clear p1 p2 p3 p4 p5 p6 hrot1 HMI
      have hsd1:d1.size=sz:=by have:=HP1.out.1;omega
      by_cases l1:a<s
      ·have l1z:(a:Int)<(s:Int):=by omega
       have l1d:decide ((a:Int)<(s:Int))=true:=decide_eq_true l1z
       by_cases l2:s<mid
       ·have l2z:(s:Int)<(mid:Int):=by omega
        have l2d:decide ((s:Int)<(mid:Int))=true:=decide_eq_true l2z
        have h:=IH.out a s mid d1 wr (by omega) (by have:=HP1.out.1;omega) S1.out (by omega) (by omega) (by omega) HQ1.out HQ2.out
        have H:Aside _:=h
        clear h
        go_wp2_with fail
        refine Calls.mono H.out ?_
        clear H S1
        rintro e w8 ⟨rfl,d2,t1,t2,t3,t4⟩
        have HP2:=Lib.hid t2
        have HS2:=Lib.hid t3
        have S8:Aside _:=t4
        clear t2 t3 t4
        by_cases r1:mid<en
        ·have r1z:(mid:Int)<(mid:Int)+(m:Int)-(s:Int):=by have:=hez.out;omega
         have r1d:decide ((mid:Int)<(mid:Int)+(m:Int)-(s:Int))=true:=decide_eq_true r1z
         by_cases r2:en<b
         ·have r2z:(mid:Int)+(m:Int)-(s:Int)<(b:Int):=by have:=hez.out;omega
          have r2d:decide ((mid:Int)+(m:Int)-(s:Int)<(b:Int))=true:=decide_eq_true r2z
          have h:=IH.out mid en b d2 w8 (by omega) (by have:=HP2.out.1;omega) S8.out (by omega) (by omega) hb (sorted_off HQ3.out HP2.out (.inr (Nat.le_refl _))) (sorted_off HQ4.out HP2.out (.inr (by omega)))
          rw[show ((en:Nat):Int)=(mid:Int)+(m:Int)-(s:Int) from hez.out.symm] at h
          have H:Aside _:=h
          clear h
          go_wp2_with fail
          refine Calls.mono H.out ?_
          clear H S8
          rintro e w9 ⟨rfl,d3,t1,t2,t3,t4⟩
          have T2:=Lib.hid t2
          have T3:=Lib.hid t3
          have T4:=Lib.hid t4
          clear t2 t3 t4
          go_wp2_with fail
          (try simp only[Exit.inBlock,Exit.then]);refine bodyPost_end (results_none rfl _ _ _) rfl ?_
          obtain⟨f1,f2⟩:=merge_end (lt:=ltOf cf) (d1:=d1) (d2:=d2) (d3:=d3) (a:=a) (mid:=mid) (b:=b) (by omega) (by omega) (by omega) HP2.out HS2.out T2.out T3.out HX.out
          exact⟨rfl,d3,by have:=f1.1;omega,permIn_trans _ _ _ _ _ HP1.out f1,f2,T4.out⟩
         ·have r2z:¬ (mid:Int)+(m:Int)-(s:Int)<(b:Int):=by have:=hez.out;omega
          have r2d:decide ((mid:Int)+(m:Int)-(s:Int)<(b:Int))=false:=decide_eq_false r2z
          have hee:en=b:=by omega
          go_wp2_with fail
          (try simp only[Exit.inBlock,Exit.then]);refine bodyPost_end (results_none rfl _ _ _) rfl ?_
          have q3:=sorted_off HQ3.out HP2.out (.inr (Nat.le_refl _))
          rw[hee] at q3
          obtain⟨f1,f2⟩:=merge_end (lt:=ltOf cf) (d1:=d1) (d2:=d2) (d3:=d2) (a:=a) (mid:=mid) (b:=b) (by omega) (by omega) (by omega) HP2.out HS2.out (permIn_refl _ _ _) q3 HX.out
          exact⟨rfl,d2,by have:=f1.1;omega,permIn_trans _ _ _ _ _ HP1.out f1,f2,S8.out⟩
        ·have r1z:¬ (mid:Int)<(mid:Int)+(m:Int)-(s:Int):=by have:=hez.out;omega
         have r1d:decide ((mid:Int)<(mid:Int)+(m:Int)-(s:Int))=false:=decide_eq_false r1z
         have hee:en=mid:=by omega
         go_wp2_with fail
         (try simp only[Exit.inBlock,Exit.then]);refine bodyPost_end (results_none rfl _ _ _) rfl ?_
         have q4:=sorted_off HQ4.out HP2.out (.inr (by omega))
         rw[hee] at q4
         obtain⟨f1,f2⟩:=merge_end (lt:=ltOf cf) (d1:=d1) (d2:=d2) (d3:=d2) (a:=a) (mid:=mid) (b:=b) (by omega) (by omega) (by omega) HP2.out HS2.out (permIn_refl _ _ _) q4 HX.out
         exact⟨rfl,d2,by have:=f1.1;omega,permIn_trans _ _ _ _ _ HP1.out f1,f2,S8.out⟩
       ·have l2z:¬ (s:Int)<(mid:Int):=by omega
        have l2d:decide ((s:Int)<(mid:Int))=false:=decide_eq_false l2z
        have hsm:s=mid:=by omega
        have q1:=HQ1.out
        rw[hsm] at q1
        obtain⟨d2,hd2⟩:∃ d2,d2=d1:=⟨_,rfl⟩
        have HP2:Hid (PermIn a mid d1 d2):=by rw[hd2];exact permIn_refl _ _ _
        rw[← hd2] at S1
        have HS2:Hid (SortedIn (ltOf cf) a mid d2):=by rw[hd2];exact q1
        clear hd2 q1 hsm
        by_cases r1:mid<en
        ·have r1z:(mid:Int)<(mid:Int)+(m:Int)-(s:Int):=by have:=hez.out;omega
         have r1d:decide ((mid:Int)<(mid:Int)+(m:Int)-(s:Int))=true:=decide_eq_true r1z
         by_cases r2:en<b
         ·have r2z:(mid:Int)+(m:Int)-(s:Int)<(b:Int):=by have:=hez.out;omega
          have r2d:decide ((mid:Int)+(m:Int)-(s:Int)<(b:Int))=true:=decide_eq_true r2z
          have h:=IH.out mid en b d2 wr (by omega) (by have:=HP2.out.1;omega) S1.out (by omega) (by omega) hb (sorted_off HQ3.out HP2.out (.inr (Nat.le_refl _))) (sorted_off HQ4.out HP2.out (.inr (by omega)))
          rw[show ((en:Nat):Int)=(mid:Int)+(m:Int)-(s:Int) from hez.out.symm] at h
          have H:Aside _:=h
          clear h
          go_wp2_with fail
          refine Calls.mono H.out ?_
          clear H S1
          rintro e w9 ⟨rfl,d3,t1,t2,t3,t4⟩
          have T2:=Lib.hid t2
          have T3:=Lib.hid t3
          have T4:=Lib.hid t4
          clear t2 t3 t4
          go_wp2_with fail
          (try simp only[Exit.inBlock,Exit.then]);refine bodyPost_end (results_none rfl _ _ _) rfl ?_
          obtain⟨f1,f2⟩:=merge_end (lt:=ltOf cf) (d1:=d1) (d2:=d2) (d3:=d3) (a:=a) (mid:=mid) (b:=b) (by omega) (by omega) (by omega) HP2.out HS2.out T2.out T3.out HX.out
          exact⟨rfl,d3,by have:=f1.1;omega,permIn_trans _ _ _ _ _ HP1.out f1,f2,T4.out⟩
         ·have r2z:¬ (mid:Int)+(m:Int)-(s:Int)<(b:Int):=by have:=hez.out;omega
          have r2d:decide ((mid:Int)+(m:Int)-(s:Int)<(b:Int))=false:=decide_eq_false r2z
          have hee:en=b:=by omega
          go_wp2_with fail
          (try simp only[Exit.inBlock,Exit.then]);refine bodyPost_end (results_none rfl _ _ _) rfl ?_
          have q3:=sorted_off HQ3.out HP2.out (.inr (Nat.le_refl _))
          rw[hee] at q3
          obtain⟨f1,f2⟩:=merge_end (lt:=ltOf cf) (d1:=d1) (d2:=d2) (d3:=d2) (a:=a) (mid:=mid) (b:=b) (by omega) (by omega) (by omega) HP2.out HS2.out (permIn_refl _ _ _) q3 HX.out
          exact⟨rfl,d2,by have:=f1.1;omega,permIn_trans _ _ _ _ _ HP1.out f1,f2,S1.out⟩
        ·have r1z:¬ (mid:Int)<(mid:Int)+(m:Int)-(s:Int):=by have:=hez.out;omega
         have r1d:decide ((mid:Int)<(mid:Int)+(m:Int)-(s:Int))=false:=decide_eq_false r1z
         have hee:en=mid:=by omega
         go_wp2_with fail
         (try simp only[Exit.inBlock,Exit.then]);refine bodyPost_end (results_none rfl _ _ _) rfl ?_
         have q4:=sorted_off HQ4.out HP2.out (.inr (by omega))
         rw[hee] at q4
         obtain⟨f1,f2⟩:=merge_end (lt:=ltOf cf) (d1:=d1) (d2:=d2) (d3:=d2) (a:=a) (mid:=mid) (b:=b) (by omega) (by omega) (by omega) HP2.out HS2.out (permIn_refl _ _ _) q4 HX.out
         exact⟨rfl,d2,by have:=f1.1;omega,permIn_trans _ _ _ _ _ HP1.out f1,f2,S1.out⟩
      ·have l1z:¬ (a:Int)<(s:Int):=by omega
       have l1d:decide ((a:Int)<(s:Int))=false:=decide_eq_false l1z
       have hsa:s=a:=by omega
       have q2:=HQ2.out
       rw[hsa] at q2
       obtain⟨d2,hd2⟩:∃ d2,d2=d1:=⟨_,rfl⟩
       have HP2:Hid (PermIn a mid d1 d2):=by rw[hd2];exact permIn_refl _ _ _
       rw[← hd2] at S1
       have HS2:Hid (SortedIn (ltOf cf) a mid d2):=by rw[hd2];exact q2
       clear hd2 q2 hsa
       by_cases r1:mid<en
       ·have r1z:(mid:Int)<(mid:Int)+(m:Int)-(s:Int):=by have:=hez.out;omega
        have r1d:decide ((mid:Int)<(mid:Int)+(m:Int)-(s:Int))=true:=decide_eq_true r1z
        by_cases r2:en<b
        ·have r2z:(mid:Int)+(m:Int)-(s:Int)<(b:Int):=by have:=hez.out;omega
         have r2d:decide ((mid:Int)+(m:Int)-(s:Int)<(b:Int))=true:=decide_eq_true r2z
         have h:=IH.out mid en b d2 wr (by omega) (by have:=HP2.out.1;omega) S1.out (by omega) (by omega) hb (sorted_off HQ3.out HP2.out (.inr (Nat.le_refl _))) (sorted_off HQ4.out HP2.out (.inr (by omega)))
         rw[show ((en:Nat):Int)=(mid:Int)+(m:Int)-(s:Int) from hez.out.symm] at h
         have H:Aside _:=h
         clear h
         go_wp2_with fail
         refine Calls.mono H.out ?_
         clear H S1
         rintro e w9 ⟨rfl,d3,t1,t2,t3,t4⟩
         have T2:=Lib.hid t2
         have T3:=Lib.hid t3
         have T4:=Lib.hid t4
         clear t2 t3 t4
         go_wp2_with fail
         (try simp only[Exit.inBlock,Exit.then]);refine bodyPost_end (results_none rfl _ _ _) rfl ?_
         obtain⟨f1,f2⟩:=merge_end (lt:=ltOf cf) (d1:=d1) (d2:=d2) (d3:=d3) (a:=a) (mid:=mid) (b:=b) (by omega) (by omega) (by omega) HP2.out HS2.out T2.out T3.out HX.out
         exact⟨rfl,d3,by have:=f1.1;omega,permIn_trans _ _ _ _ _ HP1.out f1,f2,T4.out⟩
        ·have r2z:¬ (mid:Int)+(m:Int)-(s:Int)<(b:Int):=by have:=hez.out;omega
         have r2d:decide ((mid:Int)+(m:Int)-(s:Int)<(b:Int))=false:=decide_eq_false r2z
         have hee:en=b:=by omega
         go_wp2_with fail
         (try simp only[Exit.inBlock,Exit.then]);refine bodyPost_end (results_none rfl _ _ _) rfl ?_
         have q3:=sorted_off HQ3.out HP2.out (.inr (Nat.le_refl _))
         rw[hee] at q3
         obtain⟨f1,f2⟩:=merge_end (lt:=ltOf cf) (d1:=d1) (d2:=d2) (d3:=d2) (a:=a) (mid:=mid) (b:=b) (by omega) (by omega) (by omega) HP2.out HS2.out (permIn_refl _ _ _) q3 HX.out
         exact⟨rfl,d2,by have:=f1.1;omega,permIn_trans _ _ _ _ _ HP1.out f1,f2,S1.out⟩
       ·have r1z:¬ (mid:Int)<(mid:Int)+(m:Int)-(s:Int):=by have:=hez.out;omega
        have r1d:decide ((mid:Int)<(mid:Int)+(m:Int)-(s:Int))=false:=decide_eq_false r1z
        have hee:en=mid:=by omega
        go_wp2_with fail
        (try simp only[Exit.inBlock,Exit.then]);refine bodyPost_end (results_none rfl _ _ _) rfl ?_
        have q4:=sorted_off HQ4.out HP2.out (.inr (by omega))
        rw[hee] at q4
        obtain⟨f1,f2⟩:=merge_end (lt:=ltOf cf) (d1:=d1) (d2:=d2) (d3:=d2) (a:=a) (mid:=mid) (b:=b) (by omega) (by omega) (by omega) HP2.out HS2.out (permIn_refl _ _ _) q4 HX.out
        exact⟨rfl,d2,by have:=f1.1;omega,permIn_trans _ _ _ _ _ HP1.out f1,f2,S1.out⟩
    ·have o1z:¬ (s:Int)<(m:Int):=by omega
     have o1d:decide ((s:Int)<(m:Int))=false:=decide_eq_false o1z
     obtain⟨d1,hd1⟩:∃ d1,d1=d:=⟨_,rfl⟩
     have hrot1:Rot s m (mid+m-s) d d1:=by rw[hd1];exact rot_skip d (by omega) g2 (by omega)
     rw[← hd1] at S1
     clear hd1
     obtain⟨p1,p2,p3,p4,p5,p6⟩:=rot_parts HO.out ham hmb HMID.out (by omega) H1.out H2.out g1 g2 g3 g4 HMI.out hrot1
     have HP1:=Lib.hid p1
     have HQ1:=Lib.hid p2
     have HQ2:=Lib.hid p3
     have HQ3:Hid (SortedIn (ltOf cf) mid en d1):=by show SortedIn _ _ _ _;rw[← hen.out];exact p4
     have HQ4:Hid (SortedIn (ltOf cf) en b d1):=by show SortedIn _ _ _ _;rw[← hen.out];exact p5
     have HX:=Lib.hid p6
     clear p1 p2 p3 p4 p5 p6 hrot1 HMI
     have hsd1:d1.size=sz:=by have:=HP1.out.1;omega
     by_cases l1:a<s
     ·have l1z:(a:Int)<(s:Int):=by omega
      have l1d:decide ((a:Int)<(s:Int))=true:=decide_eq_true l1z
      by_cases l2:s<mid
      ·have l2z:(s:Int)<(mid:Int):=by omega
       have l2d:decide ((s:Int)<(mid:Int))=true:=decide_eq_true l2z
       have h:=IH.out a s mid d1 wr (by omega) (by have:=HP1.out.1;omega) S1.out (by omega) (by omega) (by omega) HQ1.out HQ2.out
       have H:Aside _:=h
       clear h
       go_wp2_with fail
       refine Calls.mono H.out ?_
       clear H S1
       rintro e w8 ⟨rfl,d2,t1,t2,t3,t4⟩
       have HP2:=Lib.hid t2
       have HS2:=Lib.hid t3
       have S8:Aside _:=t4
       clear t2 t3 t4
       by_cases r1:mid<en
       ·have r1z:(mid:Int)<(mid:Int)+(m:Int)-(s:Int):=by have:=hez.out;omega
        have r1d:decide ((mid:Int)<(mid:Int)+(m:Int)-(s:Int))=true:=decide_eq_true r1z
        by_cases r2:en<b
        ·have r2z:(mid:Int)+(m:Int)-(s:Int)<(b:Int):=by have:=hez.out;omega
         have r2d:decide ((mid:Int)+(m:Int)-(s:Int)<(b:Int))=true:=decide_eq_true r2z
         have h:=IH.out mid en b d2 w8 (by omega) (by have:=HP2.out.1;omega) S8.out (by omega) (by omega) hb (sorted_off HQ3.out HP2.out (.inr (Nat.le_refl _))) (sorted_off HQ4.out HP2.out (.inr (by omega)))
         rw[show ((en:Nat):Int)=(mid:Int)+(m:Int)-(s:Int) from hez.out.symm] at h
         have H:Aside _:=h
         clear h
         go_wp2_with fail
         refine Calls.mono H.out ?_
         clear H S8
         rintro e w9 ⟨rfl,d3,t1,t2,t3,t4⟩
         have T2:=Lib.hid t2
         have T3:=Lib.hid t3
         have T4:=Lib.hid t4
         clear t2 t3 t4
         go_wp2_with fail
         (try simp only[Exit.inBlock,Exit.then]);refine bodyPost_end (results_none rfl _ _ _) rfl ?_
         obtain⟨f1,f2⟩:=merge_end (lt:=ltOf cf) (d1:=d1) (d2:=d2) (d3:=d3) (a:=a) (mid:=mid) (b:=b) (by omega) (by omega) (by omega) HP2.out HS2.out T2.out T3.out HX.out
         exact⟨rfl,d3,by have:=f1.1;omega,permIn_trans _ _ _ _ _ HP1.out f1,f2,T4.out⟩
        ·have r2z:¬ (mid:Int)+(m:Int)-(s:Int)<(b:Int):=by have:=hez.out;omega
         have r2d:decide ((mid:Int)+(m:Int)-(s:Int)<(b:Int))=false:=decide_eq_false r2z
         have hee:en=b:=by omega
         go_wp2_with fail
         (try simp only[Exit.inBlock,Exit.then]);refine bodyPost_end (results_none rfl _ _ _) rfl ?_
         have q3:=sorted_off HQ3.out HP2.out (.inr (Nat.le_refl _))
         rw[hee] at q3
         obtain⟨f1,f2⟩:=merge_end (lt:=ltOf cf) (d1:=d1) (d2:=d2) (d3:=d2) (a:=a) (mid:=mid) (b:=b) (by omega) (by omega) (by omega) HP2.out HS2.out (permIn_refl _ _ _) q3 HX.out
         exact⟨rfl,d2,by have:=f1.1;omega,permIn_trans _ _ _ _ _ HP1.out f1,f2,S8.out⟩
       ·have r1z:¬ (mid:Int)<(mid:Int)+(m:Int)-(s:Int):=by have:=hez.out;omega
        have r1d:decide ((mid:Int)<(mid:Int)+(m:Int)-(s:Int))=false:=decide_eq_false r1z
        have hee:en=mid:=by omega
        go_wp2_with fail
        (try simp only[Exit.inBlock,Exit.then]);refine bodyPost_end (results_none rfl _ _ _) rfl ?_
        have q4:=sorted_off HQ4.out HP2.out (.inr (by omega))
        rw[hee] at q4
        obtain⟨f1,f2⟩:=merge_end (lt:=ltOf cf) (d1:=d1) (d2:=d2) (d3:=d2) (a:=a) (mid:=mid) (b:=b) (by omega) (by omega) (by omega) HP2.out HS2.out (permIn_refl _ _ _) q4 HX.out
        exact⟨rfl,d2,by have:=f1.1;omega,permIn_trans _ _ _ _ _ HP1.out f1,f2,S8.out⟩
      ·have l2z:¬ (s:Int)<(mid:Int):=by omega
       have l2d:decide ((s:Int)<(mid:Int))=false:=decide_eq_false l2z
       have hsm:s=mid:=by omega
       have q1:=HQ1.out
       rw[hsm] at q1
       obtain⟨d2,hd2⟩:∃ d2,d2=d1:=⟨_,rfl⟩
       have HP2:Hid (PermIn a mid d1 d2):=by rw[hd2];exact permIn_refl _ _ _
       rw[← hd2] at S1
       have HS2:Hid (SortedIn (ltOf cf) a mid d2):=by rw[hd2];exact q1
       clear hd2 q1 hsm
       by_cases r1:mid<en
       ·have r1z:(mid:Int)<(mid:Int)+(m:Int)-(s:Int):=by have:=hez.out;omega
        have r1d:decide ((mid:Int)<(mid:Int)+(m:Int)-(s:Int))=true:=decide_eq_true r1z
        by_cases r2:en<b
        ·have r2z:(mid:Int)+(m:Int)-(s:Int)<(b:Int):=by have:=hez.out;omega
         have r2d:decide ((mid:Int)+(m:Int)-(s:Int)<(b:Int))=true:=decide_eq_true r2z
         have h:=IH.out mid en b d2 wr (by omega) (by have:=HP2.out.1;omega) S1.out (by omega) (by omega) hb (sorted_off HQ3.out HP2.out (.inr (Nat.le_refl _))) (sorted_off HQ4.out HP2.out (.inr (by omega)))
         rw[show ((en:Nat):Int)=(mid:Int)+(m:Int)-(s:Int) from hez.out.symm] at h
         have H:Aside _:=h
         clear h
         go_wp2_with fail
         refine Calls.mono H.out ?_
         clear H S1
         rintro e w9 ⟨rfl,d3,t1,t2,t3,t4⟩
         have T2:=Lib.hid t2
         have T3:=Lib.hid t3
         have T4:=Lib.hid t4
         clear t2 t3 t4
         go_wp2_with fail
         (try simp only[Exit.inBlock,Exit.then]);refine bodyPost_end (results_none rfl _ _ _) rfl ?_
         obtain⟨f1,f2⟩:=merge_end (lt:=ltOf cf) (d1:=d1) (d2:=d2) (d3:=d3) (a:=a) (mid:=mid) (b:=b) (by omega) (by omega) (by omega) HP2.out HS2.out T2.out T3.out HX.out
         exact⟨rfl,d3,by have:=f1.1;omega,permIn_trans _ _ _ _ _ HP1.out f1,f2,T4.out⟩
        ·have r2z:¬ (mid:Int)+(m:Int)-(s:Int)<(b:Int):=by have:=hez.out;omega
         have r2d:decide ((mid:Int)+(m:Int)-(s:Int)<(b:Int))=false:=decide_eq_false r2z
         have hee:en=b:=by omega
         go_wp2_with fail
         (try simp only[Exit.inBlock,Exit.then]);refine bodyPost_end (results_none rfl _ _ _) rfl ?_
         have q3:=sorted_off HQ3.out HP2.out (.inr (Nat.le_refl _))
         rw[hee] at q3
         obtain⟨f1,f2⟩:=merge_end (lt:=ltOf cf) (d1:=d1) (d2:=d2) (d3:=d2) (a:=a) (mid:=mid) (b:=b) (by omega) (by omega) (by omega) HP2.out HS2.out (permIn_refl _ _ _) q3 HX.out
         exact⟨rfl,d2,by have:=f1.1;omega,permIn_trans _ _ _ _ _ HP1.out f1,f2,S1.out⟩
       ·have r1z:¬ (mid:Int)<(mid:Int)+(m:Int)-(s:Int):=by have:=hez.out;omega
        have r1d:decide ((mid:Int)<(mid:Int)+(m:Int)-(s:Int))=false:=decide_eq_false r1z
        have hee:en=mid:=by omega
        go_wp2_with fail
        (try simp only[Exit.inBlock,Exit.then]);refine bodyPost_end (results_none rfl _ _ _) rfl ?_
        have q4:=sorted_off HQ4.out HP2.out (.inr (by omega))
        rw[hee] at q4
        obtain⟨f1,f2⟩:=merge_end (lt:=ltOf cf) (d1:=d1) (d2:=d2) (d3:=d2) (a:=a) (mid:=mid) (b:=b) (by omega) (by omega) (by omega) HP2.out HS2.out (permIn_refl _ _ _) q4 HX.out
        exact⟨rfl,d2,by have:=f1.1;omega,permIn_trans _ _ _ _ _ HP1.out f1,f2,S1.out⟩
     ·have l1z:¬ (a:Int)<(s:Int):=by omega
      have l1d:decide ((a:Int)<(s:Int))=false:=decide_eq_false l1z
      have hsa:s=a:=by omega
      have q2:=HQ2.out
      rw[hsa] at q2
      obtain⟨d2,hd2⟩:∃ d2,d2=d1:=⟨_,rfl⟩
      have HP2:Hid (PermIn a mid d1 d2):=by rw[hd2];exact permIn_refl _ _ _
      rw[← hd2] at S1
      have HS2:Hid (SortedIn (ltOf cf) a mid d2):=by rw[hd2];exact q2
      clear hd2 q2 hsa
      by_cases r1:mid<en
      ·have r1z:(mid:Int)<(mid:Int)+(m:Int)-(s:Int):=by have:=hez.out;omega
       have r1d:decide ((mid:Int)<(mid:Int)+(m:Int)-(s:Int))=true:=decide_eq_true r1z
       by_cases r2:en<b
       ·have r2z:(mid:Int)+(m:Int)-(s:Int)<(b:Int):=by have:=hez.out;omega
        have r2d:decide ((mid:Int)+(m:Int)-(s:Int)<(b:Int))=true:=decide_eq_true r2z
        have h:=IH.out mid en b d2 wr (by omega) (by have:=HP2.out.1;omega) S1.out (by omega) (by omega) hb (sorted_off HQ3.out HP2.out (.inr (Nat.le_refl _))) (sorted_off HQ4.out HP2.out (.inr (by omega)))
        rw[show ((en:Nat):Int)=(mid:Int)+(m:Int)-(s:Int) from hez.out.symm] at h
        have H:Aside _:=h
        clear h
        go_wp2_with fail
        refine Calls.mono H.out ?_
        clear H S1
        rintro e w9 ⟨rfl,d3,t1,t2,t3,t4⟩
        have T2:=Lib.hid t2
        have T3:=Lib.hid t3
        have T4:=Lib.hid t4
        clear t2 t3 t4
        go_wp2_with fail
        (try simp only[Exit.inBlock,Exit.then]);refine bodyPost_end (results_none rfl _ _ _) rfl ?_
        obtain⟨f1,f2⟩:=merge_end (lt:=ltOf cf) (d1:=d1) (d2:=d2) (d3:=d3) (a:=a) (mid:=mid) (b:=b) (by omega) (by omega) (by omega) HP2.out HS2.out T2.out T3.out HX.out
        exact⟨rfl,d3,by have:=f1.1;omega,permIn_trans _ _ _ _ _ HP1.out f1,f2,T4.out⟩
       ·have r2z:¬ (mid:Int)+(m:Int)-(s:Int)<(b:Int):=by have:=hez.out;omega
        have r2d:decide ((mid:Int)+(m:Int)-(s:Int)<(b:Int))=false:=decide_eq_false r2z
        have hee:en=b:=by omega
        go_wp2_with fail
        (try simp only[Exit.inBlock,Exit.then]);refine bodyPost_end (results_none rfl _ _ _) rfl ?_
        have q3:=sorted_off HQ3.out HP2.out (.inr (Nat.le_refl _))
        rw[hee] at q3
        obtain⟨f1,f2⟩:=merge_end (lt:=ltOf cf) (d1:=d1) (d2:=d2) (d3:=d2) (a:=a) (mid:=mid) (b:=b) (by omega) (by omega) (by omega) HP2.out HS2.out (permIn_refl _ _ _) q3 HX.out
        exact⟨rfl,d2,by have:=f1.1;omega,permIn_trans _ _ _ _ _ HP1.out f1,f2,S1.out⟩
      ·have r1z:¬ (mid:Int)<(mid:Int)+(m:Int)-(s:Int):=by have:=hez.out;omega
       have r1d:decide ((mid:Int)<(mid:Int)+(m:Int)-(s:Int))=false:=decide_eq_false r1z
       have hee:en=mid:=by omega
       go_wp2_with fail
       (try simp only[Exit.inBlock,Exit.then]);refine bodyPost_end (results_none rfl _ _ _) rfl ?_
       have q4:=sorted_off HQ4.out HP2.out (.inr (by omega))
       rw[hee] at q4
       obtain⟨f1,f2⟩:=merge_end (lt:=ltOf cf) (d1:=d1) (d2:=d2) (d3:=d2) (a:=a) (mid:=mid) (b:=b) (by omega) (by omega) (by omega) HP2.out HS2.out (permIn_refl _ _ _) q4 HX.out
       exact⟨rfl,d2,by have:=f1.1;omega,permIn_trans _ _ _ _ _ HP1.out f1,f2,S1.out⟩
end Go.Proofs.YtmagoiniahpofaaGreat
namespace Go.Proofs.YtmagoiniahpofaaGreat
open Go Go.RowKit Go.Lib Go.Sort Go.Shelf
variable {α:Type} [Inhabited α]
theorem symMerge_any (enc:α→Value) (cf:α→α→Int) (hO:SWO (ltOf cf)) (g:Nat) (cb:Array Value) (blk off cap sz:Nat) (d0:Array α) (w0:World)
  (eg:∀ args w,(callFunc g args).run Tryz.prog w= .ok (.enter g args) w) (hcmp:CmpLays1 Tryz.prog g cb enc cf blk off sz w0)
  (R:Row1 enc w0 blk off d0) (hs:d0.size=sz) (hsz:sz<4611686018427387904) :
  ∀ (N a m b:Nat) (d:Array α) (w:World),b-a≤N→d.size=sz→SW enc w0 blk off d w→a<m→m<b→b≤sz→SortedIn (ltOf cf) a m d→SortedIn (ltOf cf) m b d→
  Calls Tryz.prog 60 #[.slice (some ⟨blk,off,none⟩) sz cap,.int .i64 a,.int .i64 m,.int .i64 b,.func (.func g) #[] cb] w fun e w'=>e= .returned (.tuple #[])∧∃ d',d'.size=sz∧PermIn a b d d'∧SortedIn (ltOf cf) a b d'∧SW enc w0 blk off d' w':=by
 intro N
 induction N with
 |zero=>intro a m b d w h;omega
 |succ N ih=>
  intro a m b d w hN hd S ham hmb hb hs1 hs2
  by_cases h1:m=a+1
  ·exact symMerge_left enc cf hO g cb blk off cap sz d0 w0 eg hcmp R hs hsz a m b d w hd S h1 hmb hb hs2
  ·by_cases h2:b=m+1
   ·exact symMerge_right enc cf hO g cb blk off cap sz d0 w0 eg hcmp R hs hsz a m b d w hd S (by omega) h2 hb hs1
   ·exact symMerge_mid enc cf hO g cb blk off cap sz d0 w0 eg hcmp R hs hsz N a m b d w (by omega) hd S (by omega) (by omega) hb hs1 hs2 ih
theorem insert_any (enc:α→Value) (cf:α→α→Int) (hO:SWO (ltOf cf)) (g:Nat) (cb:Array Value) (blk off cap sz:Nat) (d0:Array α) (w0:World)
  (eg:∀ args w,(callFunc g args).run Tryz.prog w= .ok (.enter g args) w) (hcmp:CmpLays1 Tryz.prog g cb enc cf blk off sz w0)
  (R:Row1 enc w0 blk off d0) (hs:d0.size=sz) (hsz:sz<4611686018427387904) (a b:Nat) (d:Array α) (w:World) (hd:d.size=sz) (S:SW enc w0 blk off d w) (hab:a≤b) (hb:b≤sz) :
  Calls Tryz.prog 59 #[.slice (some ⟨blk,off,none⟩) sz cap,.int .i64 a,.int .i64 b,.func (.func g) #[] cb] w fun e w'=>e= .returned (.tuple #[])∧∃ d',d'.size=sz∧PermIn a b d d'∧SortedIn (ltOf cf) a b d'∧SW enc w0 blk off d' w':=by
 subst hd
 obtain⟨p1,p2⟩:=insertionSort_holds hO d a b hab hb
 have h:=Any.insertionSortCmpFunc_s Tryz.insI enc cf g cb blk off cap a b d0 d w0 w eg (by rw[hs];exact hcmp) R hs S hab hb hsz
 change Calls Tryz.prog 59 _ _ _ at h
 refine Calls.mono h ?_
 rintro e w' ⟨rfl,h1⟩
 exact⟨rfl,_,p1.1,p1,p2,h1⟩
theorem permIn_in {a b n:Nat} {d d1 d2:Array α} (h:PermIn 0 n d d1) (p:PermIn a b d1 d2) (hb:b≤n) (hn:n≤d1.size):PermIn 0 n d d2:=
 permIn_trans _ _ _ _ _ h (permIn_mono d1 d2 a b 0 n (Nat.zero_le _) hb hn p)
theorem half_merged {lt:α→α→Bool} {bs a n:Nat} {d d':Array α} (hd:2*bs ∣ a) (h:Half lt bs a n d) (p:PermIn a n d d') (hs:SortedIn lt a n d'):Half lt bs a n d':=
 ⟨fun x hx hxa=>sorted_off (h.1 x hx hxa) p (.inl (dvd_next hx hd hxa)),fun x _ hax i j hi hij hj=>hs i j (by omega) hij (by omega)⟩
set_option maxHeartbeats 16000000 in
set_option maxRecDepth 1000000 in
theorem stable_any (enc:α→Value) (cf:α→α→Int) (hO:SWO (ltOf cf)) (g:Nat) (cb:Array Value) (blk off cap sz:Nat) (d0:Array α) (w0:World)
  (eg:∀ args w,(callFunc g args).run Tryz.prog w= .ok (.enter g args) w) (hcmp:CmpLays1 Tryz.prog g cb enc cf blk off sz w0)
  (R:Row1 enc w0 blk off d0) (hs:d0.size=sz) (hsz:sz<4611686018427387904) (hsm:sz<1152921504606846976) (d:Array α) (w:World) (hd:d.size=sz) (S:SW enc w0 blk off d w) :
  Calls Tryz.prog 38 #[.slice (some ⟨blk,off,none⟩) sz cap,.int .i64 sz,.func (.func g) #[] cb] w fun e w'=>e= .returned (.tuple #[])∧∃ d',d'.size=sz∧PermIn 0 sz d d'∧SortedIn (ltOf cf) 0 sz d'∧SW enc w0 blk off d' w':=by
 have HI:Aside _:=insert_any enc cf hO g cb blk off cap sz d0 w0 eg hcmp R hs hsz
 have HM:Aside _:=symMerge_any enc cf hO g cb blk off cap sz d0 w0 eg hcmp R hs hsz
 have S0:Aside (SW enc w0 blk off d w):=S
 clear S hcmp
 go_enter Tryz.func38,Tryz.ntmps38
 go_wp2_with fail
 go_loopg [7,8] sz (fun kx si sj wr=>∃ (a:Nat) (dk:Array α),si= .int .i64 a∧sj= .int .i64 (a+20:Nat)∧a≤sz∧sz≤kx+a∧20 ∣ a∧dk.size=sz∧Hid (Firsts (ltOf cf) 20 a dk)∧Hid (PermIn 0 sz d dk)∧Aside (SW enc w0 blk off dk wr))
 case atStart=>exact⟨0,d,rfl,rfl,Nat.zero_le _,by omega,Nat.dvd_zero _,hd,(fun x _ h=>absurd h (Nat.not_lt_zero _)),permIn_refl _ _ _,S0⟩
 case round=>
  clear S0
  obtain⟨a,dk,rfl,rfl,ha,hkx,hdv,hds,HF,HP,S1⟩:=hrel
  have HDV:=Lib.hid hdv
  clear hdv
  obtain⟨b,hb⟩:∃ b,b=a+20:=⟨_,rfl⟩
  rw[← hb]
  have HB:=Lib.hid hb
  by_cases hlt:b≤sz
  ·have hlz:(b:Int)≤(sz:Int):=by omega
   have h:=HI.out a b dk wr hds S1.out (by omega) hlt
   have H:Aside _:=h
   clear h S1 hb
   go_wp2_with fail
   refine Calls.mono H.out ?_
   clear H
   rintro e w1 ⟨rfl,d1,t1,t2,t3,t4⟩
   have T2:=Lib.hid t2
   have T3:=Lib.hid t3
   have T4:Aside _:=t4
   clear t2 t3 t4
   have hbe:=HB.out
   have hbz:(b:Int)=(a:Int)+20:=by omega
   clear hbe
   have HBZ:=Lib.hid hbz
   clear hbz
   go_wp2_with fail
   have hbe:=HB.out
   go_roundg (sz-b)
   case measure=>omega
   case rel=>
    refine⟨b,d1,rfl,by go_num,hlt,by omega,?_,t1,?_,permIn_in HP.out T2.out hlt (by omega),T4⟩
    ·rw[hbe];exact Nat.dvd_add HDV.out (Nat.dvd_refl _)
    ·have h2:=T2.out
     have h3:=T3.out
     rw[hbe] at h2 h3 ⊢
     exact firsts_step HDV.out HF.out h2 h3
  ·have hlz:¬ (b:Int)≤(sz:Int):=by omega
   have h:=HI.out a sz dk wr hds S1.out ha (Nat.le_refl _)
   have H:Aside _:=h
   have hbl:sz<a+20:=by omega
   clear h S1 hb
   go_wp2_with fail
   refine Calls.mono H.out ?_
   clear H
   rintro e w1 ⟨rfl,d1,t1,t2,t3,t4⟩
   have HBK:Hid (Blks (ltOf cf) 20 sz d1):=firsts_end HDV.out HF.out ha hbl t2 t3
   have HP1:Hid (PermIn 0 sz d d1):=permIn_in HP.out t2 (Nat.le_refl _) (by omega)
   have T4:Aside _:=t4
   clear t2 t3 t4 HF HP HDV HB hlz hlt hkx hds
   go_wp2_with fail
   go_loopg [6,7,8,9] (sz+20) (fun kx s6 s7 s8 s9 wr=>∃ (bs:Nat) (dk:Array α),s6= .int .i64 bs∧20≤bs∧bs≤2*sz+20∧sz+20≤kx+bs∧dk.size=sz∧Hid (Blks (ltOf cf) bs sz dk)∧Hid (PermIn 0 sz d dk)∧Aside (SW enc w0 blk off dk wr))
   case atStart=>exact⟨20,d1,rfl,Nat.le_refl _,by omega,by omega,t1,HBK,HP1,T4⟩
   case round=>
    clear HBK HP1 T4 t1
    obtain⟨bs,dk,rfl,hb20,hb2,hkx,hds,HB,HP,S1⟩:=hrel
    by_cases hlt:bs<sz
    ·have hlz:(bs:Int)<(sz:Int):=by omega
     have HH:Hid (Half (ltOf cf) bs 0 sz dk):=half_start HB.out
     clear HB
     go_wp2_with fail
     go_loopg [7,8] sz (fun ky s7 s8 wr=>∃ (a:Nat) (dq:Array α),s7= .int .i64 a∧s8= .int .i64 ((a+2*bs:Nat):Int)∧a≤sz∧sz≤ky+a∧Hid (2*bs ∣ a)∧dq.size=sz∧Hid (Half (ltOf cf) bs a sz dq)∧Hid (PermIn 0 sz d dq)∧Aside (SW enc w0 blk off dq wr))
     case atStart=>exact⟨0,dk,rfl,by go_num,Nat.zero_le _,by omega,Nat.dvd_zero _,hds,HH,HP,S1⟩
     case round=>
      clear HH HP S1 hds
      obtain⟨a,dq,rfl,rfl,ha,hky,hdv,hdq,HH,HP,S1⟩:=hrel
      obtain⟨b,hb⟩:∃ b,b=a+2*bs:=⟨_,rfl⟩
      rw[← hb]
      have hba:a+bs<b:=by omega
      have hbx:b=a+bs+bs:=by omega
      obtain⟨q1,q2⟩:=half_two hdv.out HH.out
      rw[← hbx] at q2
      have ec:((a+bs:Nat):Int)=(a:Int)+(bs:Int):=by omega
      by_cases hle:b≤sz
      ·have hlz2:(b:Int)≤(sz:Int):=by omega
       rw[Nat.min_eq_left (by omega)] at q1 q2
       have h:=HM.out (b-a) a (a+bs) b dq wr (Nat.le_refl _) hdq S1.out (by omega) hba hle q1 q2
       rw[ec] at h
       have H:Aside _:=h
       have HBB:=Lib.hid hb
       clear h S1 q1 q2 hb hbx ec
       go_wp2_with fail
       refine Calls.mono H.out ?_
       clear H
       rintro e w1 ⟨rfl,d2,t1,t2,t3,t4⟩
       have T2:=Lib.hid t2
       have T3:=Lib.hid t3
       have T4:Aside _:=t4
       clear t2 t3 t4
       go_wp2_with fail
       have hbe:=HBB.out
       go_roundg (sz-b)
       case measure=>omega
       case rel=>
        refine⟨b,d2,rfl,by go_num,hle,by omega,?_,t1,?_,permIn_in HP.out T2.out hle (by omega),T4⟩
        ·show _ ∣ _
         rw[hbe]
         exact Nat.dvd_add hdv.out (Nat.dvd_refl _)
        ·have h2:=T2.out
         have h3:=T3.out
         rw[hbe] at h2 h3 ⊢
         exact half_step hdv.out HH.out h2 h3
      ·have hlz2:¬ (b:Int)≤(sz:Int):=by omega
       have hbs2:sz<a+2*bs:=by omega
       rw[Nat.min_eq_right (by omega)] at q2
       by_cases hm:a+bs<sz
       ·have hmz:(a:Int)+(bs:Int)<(sz:Int):=by omega
        rw[Nat.min_eq_left (by omega)] at q1
        have h:=HM.out (sz-a) a (a+bs) sz dq wr (Nat.le_refl _) hdq S1.out (by omega) hm (Nat.le_refl _) q1 q2
        rw[ec] at h
        have H:Aside _:=h
        clear h S1 q1 q2 hb hbx ec hba
        go_wp2_with fail
        refine Calls.mono H.out ?_
        clear H
        rintro e w1 ⟨rfl,d2,t1,t2,t3,t4⟩
        have HBK:Hid (Blks (ltOf cf) (2*bs) sz d2):=half_end hdv.out (half_merged hdv.out HH.out t2 t3) hbs2 ha t3
        have HP2:Hid (PermIn 0 sz d d2):=permIn_in HP.out t2 (Nat.le_refl _) (by omega)
        have T4:Aside _:=t4
        clear t2 t3 t4
        go_wp2_with fail
        go_roundg (sz+20-2*bs)
        case measure=>omega
        case rel=>exact⟨2*bs,d2,by go_num,by omega,by omega,by omega,t1,HBK,HP2,T4⟩
       ·have hmz:¬ (a:Int)+(bs:Int)<(sz:Int):=by omega
        rw[Nat.min_eq_right (by omega)] at q1
        have HBK:Hid (Blks (ltOf cf) (2*bs) sz dq):=half_end hdv.out HH.out hbs2 ha q1
        clear q1 q2 hb hbx ec hba
        go_wp2_with fail
        go_roundg (sz+20-2*bs)
        case measure=>omega
        case rel=>exact⟨2*bs,dq,by go_num,by omega,by omega,by omega,hdq,HBK,HP,S1⟩
    ·have hlz:¬ (bs:Int)<(sz:Int):=by omega
     go_wp2_with fail
     go_end0
     exact⟨rfl,dk,hds,HP.out,blks_all HB.out (by omega),S1.out⟩
set_option maxHeartbeats 16000000 in
set_option maxRecDepth 1000000 in
theorem sortStable_any (enc:α→Value) (cf:α→α→Int) (hO:SWO (ltOf cf)) (g:Nat) (cb:Array Value) (blk off cap sz:Nat) (d0:Array α) (w0:World)
  (eg:∀ args w,(callFunc g args).run Tryz.prog w= .ok (.enter g args) w) (hcmp:CmpLays1 Tryz.prog g cb enc cf blk off sz w0)
  (R:Row1 enc w0 blk off d0) (hs:d0.size=sz) (hsz:sz<4611686018427387904) (hsm:sz<1152921504606846976) (d:Array α) (w:World) (hd:d.size=sz) (S:SW enc w0 blk off d w) :
  Calls Tryz.prog 12 #[.slice (some ⟨blk,off,none⟩) sz cap,.func (.func g) #[] cb] w fun e w'=>e= .returned (.tuple #[])∧∃ d',d'.size=sz∧PermIn 0 sz d d'∧SortedIn (ltOf cf) 0 sz d'∧SW enc w0 blk off d' w':=by
 have H:Aside _:=stable_any enc cf hO g cb blk off cap sz d0 w0 eg hcmp R hs hsz hsm d w hd S
 clear S hcmp
 go_enter Tryz.func12,Tryz.ntmps12
 go_wp2_with fail
 refine Calls.mono H.out ?_
 clear H
 rintro e w1 ⟨rfl,d2,t1,t2,t3,t4⟩
 have T2:=Lib.hid t2
 have T3:=Lib.hid t3
 have T4:Aside _:=t4
 clear t2 t3 t4
 go_wp2_with fail
 go_end0
 exact⟨rfl,d2,t1,T2.out,T3.out,T4.out⟩
end Go.Proofs.YtmagoiniahpofaaGreat
