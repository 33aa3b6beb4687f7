import Derived.Test.YtcmplpkmfbhpdaaGreatSrX
import Derived.Test.YtcmplpkmfbhpdaaGreatSortLay
import Derived.Shelf.SlSortCmp.Insertion1
namespace Go.Proofs.YtcmplpkmfbhpdaaGreat
open Go Go.RowKit Go.Lib Go.Sort Go.Shelf
variable {α:Type} [Inhabited α]
theorem amG (enc:α->Value) (cf:α->α->Int) (hO:SWO (ltOf cf)) (g:Nat) (cb:Array Value) (blk off cap sz:Nat) (d0:Array α) (w0:World)
  (eg:∀ args w,(callFunc g args).run Tryz.prog w= .ok (.enter g args) w) (hcmp:CmpLays1 Tryz.prog g cb enc cf blk off sz w0)
  (R:Row1 enc w0 blk off d0) (hs:d0.size=sz) (hsz:sz<4611686018427387904) (a b:Nat) (d:Array α) (w:World) (hd:d.size=sz) (S:SW enc w0 blk off d w) (hab:a<=b) (hb:b<=sz) :
  Calls Tryz.prog 146 #[.slice (some ⟨blk,off,none⟩) sz cap,.int .i64 a,.int .i64 b,.func (.func g) #[] cb] w λe w'=>e= .returned (.tuple #[])/\∃ d',d'.size=sz/\PermIn a b d d'/\SortedIn (ltOf cf) a b d'/\SW enc w0 blk off d' w':=by
 subst hd;obtain⟨p1,p2⟩:=insertionSort_holds hO d a b hab hb;have h:=Any.insertionSortCmpFunc_s Tryz.insI enc cf g cb blk off cap a b d0 d w0 w eg (by rw[hs];exact hcmp) R hs S hab hb hsz;change Calls Tryz.prog 146 _ _ _ at h;refine Calls.mono h ?_;rintro e w' ⟨rfl,h1⟩;exact⟨rfl,_,p1.1,p1,p2,h1⟩
theorem aiN {a b n:Nat} {d d1 d2:Array α} (h:PermIn 0 n d d1) (p:PermIn a b d1 d2) (hb:b<=n) (hn:n<=d1.size):PermIn 0 n d d2:=
 permIn_trans _ _ _ _ _ h (permIn_mono d1 d2 a b 0 n (Nat.zero_le _) hb hn p)
set_option maxHeartbeats 16000000 in
set_option maxRecDepth 1000000 in
theorem amj (enc:α->Value) (cf:α->α->Int) (hO:SWO (ltOf cf)) (g:Nat) (cb:Array Value) (blk off cap sz:Nat) (d0:Array α) (w0:World)
  (eg:∀ args w,(callFunc g args).run Tryz.prog w= .ok (.enter g args) w) (hcmp:CmpLays1 Tryz.prog g cb enc cf blk off sz w0)
  (R:Row1 enc w0 blk off d0) (hs:d0.size=sz) (hsz:sz<4611686018427387904) (hsm:sz<=20) (d:Array α) (w:World) (hd:d.size=sz) (S:SW enc w0 blk off d w) :
  Calls Tryz.prog 103 #[.slice (some ⟨blk,off,none⟩) sz cap,.int .i64 sz,.func (.func g) #[] cb] w λe w'=>e= .returned (.tuple #[])/\∃ d',d'.size=sz/\PermIn 0 sz d d'/\SortedIn (ltOf cf) 0 sz d'/\SW enc w0 blk off d' w':=by
 have HI:Aside _:=amG enc cf hO g cb blk off cap sz d0 w0 eg hcmp R hs hsz;have S0:Aside (SW enc w0 blk off d w):=S;clear S hcmp;go_enter Tryz.func103,Tryz.ntmps103
 go_wp2_with fail
 go_loopg [7,8] sz (λkx si sj wr=>∃ (a:Nat) (dk:Array α),si= .int .i64 a/\sj= .int .i64 (a+20:Nat)/\a<=sz/\sz<=kx+a/\20 ∣ a/\dk.size=sz/\Hid (ak1 (ltOf cf) 20 a dk)/\Hid (PermIn 0 sz d dk)/\Aside (SW enc w0 blk off dk wr))
 case atStart=>exact⟨0,d,rfl,rfl,Nat.zero_le _,by omega,Nat.dvd_zero _,hd,(λx _ h=>absurd h (Nat.not_lt_zero _)),permIn_refl _ _ _,S0⟩
 case round=>
  clear S0;obtain⟨a,dk,rfl,rfl,ha,hkx,hdv,hds,HF,HP,S1⟩:=hrel;have HDV:=Lib.hid hdv;clear hdv;obtain⟨b,hb⟩:∃ b,b=a+20:=⟨_,rfl⟩
  rw[<- hb];have HB:=Lib.hid hb;by_cases hlt:b<=sz
  ·have hlz:(b:Int)<=(sz:Int):=by omega
   have h:=HI.out a b dk wr hds S1.out (by omega) hlt;have H:Aside _:=h;clear h S1 hb;go_wp2_with fail
   refine Calls.mono H.out ?_;clear H;rintro e w1 ⟨rfl,d1,t1,t2,t3,t4⟩;have T2:=Lib.hid t2;have T3:=Lib.hid t3;have T4:Aside _:=t4;clear t2 t3 t4;have hbe:=HB.out;have hbz:(b:Int)=(a:Int)+20:=by omega
   clear hbe;have HBZ:=Lib.hid hbz;clear hbz;go_wp2_with fail
   have hbe:=HB.out;go_roundg (sz-b)
   case measure=>omega
   case rel=>
    refine⟨b,d1,rfl,by go_num,hlt,by omega,?_,t1,?_,aiN HP.out T2.out hlt (by omega),T4⟩
    ·rw[hbe];exact Nat.dvd_add HDV.out (Nat.dvd_refl _)
    ·have h2:=T2.out;have h3:=T3.out;rw[hbe] at h2 h3 ⊢;exact akt HDV.out HF.out h2 h3
  ·have hlz:¬ (b:Int)<=(sz:Int):=by omega
   have h:=HI.out a sz dk wr hds S1.out ha (Nat.le_refl _);have H:Aside _:=h;have hbl:sz<a+20:=by omega
   clear h S1 hb;go_wp2_with fail
   refine Calls.mono H.out ?_;clear H;rintro e w1 ⟨rfl,d1,t1,t2,t3,t4⟩;have HBK:Hid (ayI (ltOf cf) 20 sz d1):=amK HDV.out HF.out ha hbl t2 t3;have HP1:Hid (PermIn 0 sz d d1):=aiN HP.out t2 (Nat.le_refl _) (by omega);have T4:Aside _:=t4;clear t2 t3 t4 HF HP HDV HB hlz hlt hkx hds;go_wp2_with fail
   go_loopg [6,7,8,9] (sz+20) (λkx s6 s7 s8 s9 wr=>∃ (bs:Nat) (dk:Array α),s6= .int .i64 bs/\20<=bs/\bs<=2*sz+20/\sz+20<=kx+bs/\dk.size=sz/\Hid (ayI (ltOf cf) bs sz dk)/\Hid (PermIn 0 sz d dk)/\Aside (SW enc w0 blk off dk wr))
   case atStart=>exact⟨20,d1,rfl,Nat.le_refl _,by omega,by omega,t1,HBK,HP1,T4⟩
   case round=>
    clear HBK HP1 T4 t1;obtain⟨bs,dk,rfl,hb20,hb2,hkx,hds,HB,HP,S1⟩:=hrel;by_cases hlt:bs<sz
    ·exfalso;omega
    ·have hlz:¬ (bs:Int)<(sz:Int):=by omega
     go_wp2_with fail
     go_end0
     exact⟨rfl,dk,hds,HP.out,arR HB.out (by omega),S1.out⟩
set_option maxHeartbeats 16000000 in
set_option maxRecDepth 1000000 in
theorem agF (enc:α->Value) (cf:α->α->Int) (hO:SWO (ltOf cf)) (g:Nat) (cb:Array Value) (blk off cap sz:Nat) (d0:Array α) (w0:World)
  (eg:∀ args w,(callFunc g args).run Tryz.prog w= .ok (.enter g args) w) (hcmp:CmpLays1 Tryz.prog g cb enc cf blk off sz w0)
  (R:Row1 enc w0 blk off d0) (hs:d0.size=sz) (hsz:sz<4611686018427387904) (hsm:sz<=20) (d:Array α) (w:World) (hd:d.size=sz) (S:SW enc w0 blk off d w) :
  Calls Tryz.prog 45 #[.slice (some ⟨blk,off,none⟩) sz cap,.func (.func g) #[] cb] w λe w'=>e= .returned (.tuple #[])/\∃ d',d'.size=sz/\PermIn 0 sz d d'/\SortedIn (ltOf cf) 0 sz d'/\SW enc w0 blk off d' w':=by
 have H:Aside _:=amj enc cf hO g cb blk off cap sz d0 w0 eg hcmp R hs hsz hsm d w hd S;clear S hcmp;go_enter Tryz.func45,Tryz.ntmps45
 go_wp2_with fail
 refine Calls.mono H.out ?_;clear H;rintro e w1 ⟨rfl,d2,t1,t2,t3,t4⟩;have T2:=Lib.hid t2;have T3:=Lib.hid t3;have T4:Aside _:=t4;clear t2 t3 t4;go_wp2_with fail
 go_end0
 exact⟨rfl,d2,t1,T2.out,T3.out,T4.out⟩
end Go.Proofs.YtcmplpkmfbhpdaaGreat
