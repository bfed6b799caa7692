/- Lemmas on the way: Shelf Sw Ro Sy Sz Ta Tb Tc. -/
import Derived.Shelf.SlSortCmp.NoneTotal
import Derived.Shelf.SlSortCmp.PdqK
import Derived.Test.YtgdaahffmcfhpaaGreatDoorO12
set_option maxRecDepth 100000
set_option maxHeartbeats 8000000
namespace Go.Proofs
open YtgdaahffmcfhpaaGreatDoor.aA
open Tryz
open Go.Shelf
def Tryz.insR_ren:Go.Shelf.Ren:=⟨fun|20=>155|n=>n,fun|24=>44|22=>40|3=>3|25=>104|4=>4|0=>0|n=>n,fun|n=>n⟩
theorem Tryz.insR:Go.Proofs.SlLaysF0.n20 prog insR_ren:={
 mixed:=by kernel_rfl
 f20:=⟨f155.name,by decide,func155.trans (congrArg some (by kernel_rfl))⟩
 t0:=underlying0
 a0:=isAgg0
 z0:=sizeOf0
 v0:=zeroValue0
 t3:=underlying3
 a3:=isAgg3
 z3:=sizeOf3
 v3:=zeroValue3
 t4:=underlying4
 a4:=isAgg4
 z4:=sizeOf4
 v4:=zeroValue4
 t22:=underlying40
 a22:=isAgg40
 z22:=sizeOf40
 v22:=zeroValue40
 t25:=underlying104
 a25:=isAgg104
 z25:=sizeOf104
 v25:=zeroValue104 }
end Go.Proofs
namespace Go.Proofs.YtgdaahffmcfhpaaGreatDoor
open aA
open Tryz
section
open Go.Shelf Go.RowKit Go.Lib Go.Sort
variable {α:Type} [Inhabited α]
structure iK (P:Program) (k:Nat):Prop where
 mixed:P.follows .mixedOrders=true
 f296:P.funcs[296]? =some f296
 f234:P.funcs[234]? =some f234
 f156:P.funcs[156]? =some f156
 f96:P.funcs[96]? =some f96
 t0:P.underlying 0=some (TypeDesc.tuple #[])
 a0:∀w,(isAgg 0).run P w=.ok false w
 z0:∀w,(Go.sizeOf 0).run P w=.ok 1 w
 v0:∀w,(zeroValue 0).run P w=.ok (Value.tuple #[]) w
 t3:P.underlying 3=some (TypeDesc.int IntKind.i64)
 a3:∀w,(isAgg 3).run P w=.ok false w
 z3:∀w,(Go.sizeOf 3).run P w=.ok 1 w
 v3:∀w,(zeroValue 3).run P w=.ok (Value.int IntKind.i64 0) w
 t4:P.underlying 4=some (TypeDesc.bool)
 a4:∀w,(isAgg 4).run P w=.ok false w
 z4:∀w,(Go.sizeOf 4).run P w=.ok 1 w
 v4:∀w,(zeroValue 4).run P w=.ok (Value.bool false) w
 t40:P.underlying 40=some (TypeDesc.slice 44)
 a40:∀w,(isAgg 40).run P w=.ok false w
 z40:∀w,(Go.sizeOf 40).run P w=.ok 1 w
 v40:∀w,(zeroValue 40).run P w=.ok (Value.slice none 0 0) w
 t104:P.underlying 104=some (TypeDesc.func #[44,44] #[3] false)
 a104:∀w,(isAgg 104).run P w=.ok false w
 z104:∀w,(Go.sizeOf 104).run P w=.ok 1 w
 v104:∀w,(zeroValue 104).run P w=.ok (Value.nilFunc) w
 t161:P.underlying 161=some (TypeDesc.int IntKind.u64)
 a161:∀w,(isAgg 161).run P w=.ok false w
 z161:∀w,(Go.sizeOf 161).run P w=.ok 1 w
 v161:∀w,(zeroValue 161).run P w=.ok (Value.int IntKind.u64 0) w
 a44:∀w,(isAgg 44).run P w=.ok true w
 z44:∀w,(Go.sizeOf 44).run P w=.ok k w
theorem Ka:iK prog 6:={
 mixed:=by kernel_rfl
 f296:=func296
 f234:=func234
 f156:=func156
 f96:=func96
 t0:=underlying0
 a0:=isAgg0
 z0:=sizeOf0
 v0:=zeroValue0
 t3:=underlying3
 a3:=isAgg3
 z3:=sizeOf3
 v3:=zeroValue3
 t4:=underlying4
 a4:=isAgg4
 z4:=sizeOf4
 v4:=zeroValue4
 t40:=underlying40
 a40:=isAgg40
 z40:=sizeOf40
 v40:=zeroValue40
 t104:=underlying104
 a104:=isAgg104
 z104:=sizeOf104
 v104:=zeroValue104
 t161:=underlying161
 a161:=isAgg161
 z161:=sizeOf161
 v161:=zeroValue161
 a44:=isAgg44
 z44:=sizeOf44 }
variable {P:Program}
variable {k:Nat}
theorem mG (L:iK P k) (enc:α->List Value) (fv:Value) (blk off cap a b n:Nat) (d0 d:Array α) (w0 w:World)
  (R:RowK enc k w0 blk off d0) (hs:d0.size=d.size) (S:SWK enc k w0 blk off d w) (ha:a+n<=d.size) (hb:b+n<=d.size) (hsz:d.size < 4611686018427387904):
  Calls P 296 #[.slice (some ⟨blk,off,none⟩) d.size cap,a,b,n,fv] w λe w'=>e=.returned (.tuple #[])/\SWK enc k w0 blk off (BQ d a b n) w':=by
 have mixed:=L.mixed;have t0:=L.t0;have a0:=L.a0;have z0:=L.z0;have v0:=L.v0;have t3:=L.t3;have a3:=L.a3;have z3:=L.z3;have v3:=L.v3;have t4:=L.t4;have a4:=L.a4;have z4:=L.z4;have v4:=L.v4;have t40:=L.t40;have a40:=L.a40;have z40:=L.z40;have v40:=L.v40;have t104:=L.t104;have a104:=L.a104;have z104:=L.z104;have v104:=L.v104;have aE:=L.a44;have zE:=L.z44;have FG:=L.f296;have S0:Aside (SWK enc k w0 blk off d w):=S;clear S L;go_enter FG,ntmps296;go_wp2;go_loopg [10] n (λkx MI wr=>∃(i:Nat) (dk:Array α),MI=.int .i64 i/\i<=n/\n - i<=kx/\dk.size=d.size/\Aside (SWK enc k w0 blk off dk wr)/\dK (dk=BQ d a b i))
 case atStart=>exact ⟨0,d,rfl,aS _,aB _,rfl,S0,rfl⟩
 case round=>
  clear S0;obtain ⟨i,dk,rfl,hi,hkx,hds,S1,HE⟩:=hrel;by_cases hlt:i < n
  ·have hltz:(i:Int) < (n:Int):=by omega
   go_wp2_with fail;have ea44:((a:Int)+(i:Int)).toNat=a+i:=by omega
   have agy:(0:Int)<=(a:Int)+(i:Int):=by omega
   have ba44:(a:Int)+(i:Int) < (d.size:Int):=by omega
   have ra44:IntKind.i64.wrap ((a:Int)+(i:Int))=(a:Int)+(i:Int):=by rw [IntKind.wrap_i64];omega
   have ec44:((b:Int)+(i:Int)).toNat=b+i:=by omega
   have abG:(0:Int)<=(b:Int)+(i:Int):=by omega
   have abH:(b:Int)+(i:Int) < (d.size:Int):=by omega
   have rc44:IntKind.i64.wrap ((b:Int)+(i:Int))=(b:Int)+(i:Int):=by rw [IntKind.wrap_i64];omega
   have S2:Aside (SWK enc k w0 blk off (swp dk (a+i) (b+i)) ((wr.drew.setCells blk (off+(a+i)*k) (enc dk[b+i]!)).setCells blk (off+(b+i)*k) (enc dk[a+i]!))):=S1.out.swapped R (a+i) (b+i) (by omega) (by omega);have Ez:=S1.out.ld1 R (by omega) P (a+i) (by omega);have F3:=S1.out.ld1 R (by omega) P (b+i) (by omega);have F4:=S1.out.st1 R (by omega) P (a+i) (by omega) dk[b+i]!;have yW:=S1.out.st2 R (by omega) P (a+i) (b+i) (by omega) (by omega) dk[b+i]! dk[a+i]!;have QO:(enc dk[a+i]!).length=k:=R.hk _;have QS:(enc dk[b+i]!).length=k:=R.hk _;generalize enc dk[a+i]! =cI44 at S2 Ez yW QO;generalize enc dk[b+i]! =cJ44 at S2 F3 F4 yW QS;clear S1;go_wp2_with fail;go_big_region_o;clear Ez F3 F4 yW;generalize (wr.drew.setCells blk (off+(a+i)*k) cJ44).setCells blk (off+(b+i)*k) cI44=w2 at S2 ⊢;go_wp2;go_roundg (n - (i+1))
   case measure=>omega
   case rel=>
    exact ⟨i+1,swp dk (a+i) (b+i),by first|rfl|simp|go_num,by omega,aB _,by rw [size_swp];exact hds,S2,by show _=_;rw [BQ,<-HE.out]⟩
  ·obtain rfl:i=n:=by omega
   have hltz:¬ ((i:Int) < (i:Int)):=by omega
   go_wp2;go_end0;refine ⟨rfl,?_⟩;rw [<-HE.out];exact S1.out
#print axioms mG
variable {α:Type} [Inhabited α] {P:Program}
theorem Kb (L:iK P k):Enters P 296:=enters_of L.f296 (by decide) rfl
theorem Kc (L:iK P k):Enters P 234:=enters_of L.f234 (by decide) rfl
theorem AU (L:iK P k):Enters P 156:=enters_of L.f156 (by decide) rfl
theorem SJ (f:Nat) (d:Array α) (m i:Nat):lz (f+1) d m i i=BQ d (m - i) m i:=by rw [lz,if_pos rfl]
theorem SK (f:Nat) (d:Array α) (m i j:Nat) (h:j < i):lz (f+1) d m i j=lz f (BQ d (m - i) m j) m (i - j) j:=by rw [lz,if_neg (by omega),if_pos h]
theorem SL (f:Nat) (d:Array α) (m i j:Nat) (h:i < j):lz (f+1) d m i j=lz f (BQ d (m - i) (m+j - i) i) m i (j - i):=by rw [lz,if_neg (by omega),if_neg (by omega)]
theorem Dl (L:iK P k) (enc:α->List Value) (fv:Value) (blk off cap a m b F:Nat) (d0 d:Array α) (w0 w:World)
  (R:RowK enc k w0 blk off d0) (hs:d0.size=d.size) (S:SWK enc k w0 blk off d w) (ha:a < m) (hm:m < b) (hb:b<=d.size) (hsz:d.size < 4611686018427387904) (hF:b - a<=F):
  Calls P 234 #[.slice (some ⟨blk,off,none⟩) d.size cap,a,m,b,fv] w λe w'=>e=.returned (.tuple #[])/\SWK enc k w0 blk off (lz F d m (m - a) (b - m)) w':=by
 have mixed:=L.mixed;have t0:=L.t0;have a0:=L.a0;have z0:=L.z0;have v0:=L.v0;have t3:=L.t3;have a3:=L.a3;have z3:=L.z3;have v3:=L.v3;have t4:=L.t4;have a4:=L.a4;have z4:=L.z4;have v4:=L.v4;have t40:=L.t40;have a40:=L.a40;have z40:=L.z40;have v40:=L.v40;have t104:=L.t104;have a104:=L.a104;have z104:=L.z104;have v104:=L.v104;have FG:=L.f234;have agz:∀args w,(callFunc 296 args).run P w=.ok (.enter 296 args) w:=Kb L;have S0:Aside (SWK enc k w0 blk off d w):=S;clear S;go_enter FG,ntmps234;have hz1:(m:Int) - (a:Int)=((m - a:Nat):Int):=by omega
 have hz2:(b:Int) - (m:Int)=((b - m:Nat):Int):=by omega
 go_wp2;go_loopg [10,11] F (λkx MI UX wr=>∃(f i j:Nat) (dk:Array α),f<=kx/\MI=.int .i64 i/\UX=.int .i64 j/\0 < i/\0 < j/\i<=m/\m+j<=d.size/\i+j<=f/\dk.size=d.size/\Aside (SWK enc k w0 blk off dk wr)/\dK (lz f dk m i j=lz F d m (m - a) (b - m)))
 case atStart=>exact ⟨F,m - a,b - m,d,aB _,by go_num,by go_num,by omega,by omega,by omega,by omega,by omega,rfl,S0,rfl⟩
 case round=>
  clear S0;obtain ⟨f,i,j,dk,iU,rfl,rfl,hi,hj,him,hmj,hkx,hds,S1,HE⟩:=hrel;obtain ⟨f,rfl⟩:∃x,f=x+1:=⟨f - 1,by omega⟩;have mz:(m:Int) - (i:Int)=((m - i:Nat):Int):=by omega
  by_cases hij:i=j
  ·subst hij
   have hd:decide ((i:Int)=(i:Int))=true:=decide_eq_true rfl;have hc:=mG L enc fv blk off cap (m - i) m i d0 dk w0 wr R (by omega) S1.out (by omega) (by omega) (by omega);rw [hds] at hc;go_wp2_with (go_at_fn 296;refine hc.mono ?_;rintro e w1 ⟨rfl,hw1⟩)
   go_end0;refine ⟨rfl,?_⟩;rw [<-HE.out,SJ];exact hw1
  ·rcases Nat.lt_or_gt_of_ne hij with hlt|hgt
   ·have uf:decide ((i:Int)=(j:Int))=false:=decide_eq_false (by omega)
    have hd2:decide ((j:Int) < (i:Int))=false:=decide_eq_false (by omega);have mz2:(m:Int)+(j:Int) - (i:Int)=((m+j - i:Nat):Int):=by omega
    have hc:=mG L enc fv blk off cap (m - i) (m+j - i) i d0 dk w0 wr R (by omega) S1.out (by omega) (by omega) (by omega);rw [hds] at hc;go_wp2_with (go_at_fn 296;refine hc.mono ?_;rintro e w1 ⟨rfl,hw1⟩)
    go_roundg f
    case measure=>omega
    case rel=>
     exact ⟨f,i,j - i,BQ dk (m - i) (m+j - i) i,aB _,rfl,by go_num,hi,by omega,him,by omega,by omega,by rw [fh];exact hds,hw1,by show _=_;rw [<-HE.out,SL _ _ _ _ _ hlt]⟩
   ·have uf:decide ((i:Int)=(j:Int))=false:=decide_eq_false (by omega)
    have hd2:decide ((j:Int) < (i:Int))=true:=decide_eq_true (by omega);have hc:=mG L enc fv blk off cap (m - i) m j d0 dk w0 wr R (by omega) S1.out (by omega) (by omega) (by omega);rw [hds] at hc;go_wp2_with (go_at_fn 296;refine hc.mono ?_;rintro e w1 ⟨rfl,hw1⟩)
    go_roundg f
    case measure=>omega
    case rel=>
     exact ⟨f,i - j,j,BQ dk (m - i) m j,aB _,by go_num,rfl,by omega,hj,by omega,by omega,by omega,by rw [fh];exact hds,hw1,by show _=_;rw [<-HE.out,SK _ _ _ _ _ hgt]⟩
#print axioms Dl
variable {α:Type} [Inhabited α] {P:Program}
theorem ry (p:Nat->Bool) (f lo hi:Nat) (h:¬ lo < hi):mZ p f lo hi=lo:=by
 cases f with
 |zero=>rfl
 |succ f=>rw [mZ,if_neg h]
theorem Bf (p:Nat->Bool) (f lo hi:Nat) (h:lo < hi) (hp:p ((lo+hi) / 2)=true):mZ p (f+1) lo hi=mZ p f ((lo+hi) / 2+1) hi:=by rw [mZ,if_pos h,if_pos hp]
theorem rz (p:Nat->Bool) (f lo hi:Nat) (h:lo < hi) (hp:p ((lo+hi) / 2)=false):mZ p (f+1) lo hi=mZ p f lo ((lo+hi) / 2):=by rw [mZ,if_pos h,if_neg (by rw [hp];decide)]
theorem sA (L:iK P k) (enc:α->List Value) (cf:α->α->Int) (g:Nat) (cb:Array Value) (blk off cap a m b:Nat) (d0 d:Array α) (w0 w:World)
  (hcmp:CmpLays P g cb enc k cf blk off d0.size w0) (eg:∀args w,(callFunc g args).run P w=.ok (.enter g args) w) (R:RowK enc k w0 blk off d0) (hs:d0.size=d.size) (S:SWK enc k w0 blk off d w) (ha:m - a=1) (hm:m < b) (hb:b<=d.size) (hsz:d.size < 4611686018427387904):
  Calls P 156 #[.slice (some ⟨blk,off,none⟩) d.size cap,a,m,b,.func (.func g) #[] cb] w λe w'=>e=.returned (.tuple #[])/\SWK enc k w0 blk off (MP d a (mZ (λh=>ltOf cf d[h]! d[a]!) (b+1) m b - 1 - a)) w':=by
 have mixed:=L.mixed;have t0:=L.t0;have a0:=L.a0;have z0:=L.z0;have v0:=L.v0;have t3:=L.t3;have a3:=L.a3;have z3:=L.z3;have v3:=L.v3;have t4:=L.t4;have a4:=L.a4;have z4:=L.z4;have v4:=L.v4;have t40:=L.t40;have a40:=L.a40;have z40:=L.z40;have v40:=L.v40;have t104:=L.t104;have a104:=L.a104;have z104:=L.z104;have v104:=L.v104;have t161:=L.t161;have a161:=L.a161;have z161:=L.z161;have v161:=L.v161;have aE:=L.a44;have zE:=L.z44;have FG:=L.f156;have HC:Aside _:=hcmp;have S0:Aside (SWK enc k w0 blk off d w):=S;obtain ⟨p,hp⟩:∃p:Nat->Bool,p=λh=>ltOf cf d[h]! d[a]!:=⟨_,rfl⟩
 rw [<-hp];have HP:dK _:=hp;clear S hcmp hp;have hz1:((m:Int) - (a:Int) ==1)=true:=by rw [beq_iff_eq];omega
 go_enter FG,ntmps156;go_wp2;go_loopg [10,11] (b+1) (λkx MI UX wr=>∃(f i j:Nat),f<=kx/\MI=.int .i64 i/\UX=.int .i64 j/\m<=i/\i<=j/\j<=b/\j - i < f/\Aside (SWK enc k w0 blk off d wr)/\dK (mZ p f i j=mZ p (b+1) m b))
 case atStart=>exact ⟨b+1,m,b,aB _,rfl,rfl,aB _,by omega,aB _,by omega,S0,rfl⟩
 case round=>
  clear S0;obtain ⟨f,i,j,iU,rfl,rfl,Tc,hij,hjb,hff,S1,HE⟩:=hrel;by_cases hlt:i < j
  ·obtain ⟨f,rfl⟩:∃x,f=x+1:=⟨f - 1,by omega⟩
   have hltz:(i:Int) < (j:Int):=by omega
   obtain ⟨md,sZ⟩:=dG ((i+j) / 2);have emd:((i:Int)+(j:Int)) / 2=(md:Int):=by omega
   have yu:i<=md:=by omega
   have hm2:md < j:=by omega
   obtain ⟨x24,yl⟩:∃x,x=d[md]!:=⟨_,rfl⟩;obtain ⟨y24,ym⟩:∃x,x=d[a]!:=⟨_,rfl⟩;have ba24:(md:Int) < (d.size:Int):=by omega
   have bc24:(a:Int) < (d.size:Int):=by omega
   have yX:=S1.out.ld R (by omega) P md (by omega);have yY:=S1.out.ld R (by omega) P a (by omega);rw [<-yl] at yX;rw [<-ym] at yY;have sO:=S1.out.cmp HC.out (by omega) x24 y24;have MZ:dK (p md=decide (cf x24 y24 < 0)):=by show _=_;rw [HP.out,yl,ym];rfl
   have yZ:dK (md=(i+j) / 2):=sZ;clear yl ym sZ;cases FI:decide (cf x24 y24 < 0) with
   |true=>
    go_wp2_with fail;go_quiet_grown (first|(go_at_fn g;refine Calls.grown_of (sO _ _)));have S2:Aside (SWK enc k w0 blk off d (grow (wr.drewN nq) osq)):=S1.out.grown nq osq;clear yX yY sO S1;generalize grow (wr.drewN nq) osq=w2 at S2 ⊢;clear nq osq;go_wp2;go_roundg f
    case measure=>omega
    case rel=>
     refine ⟨f,md+1,j,aB _,by go_num,rfl,by omega,by omega,hjb,by omega,S2,?_⟩;show _=_;rw [<-HE.out,Bf _ _ _ _ hlt (by rw [<-yZ.out,MZ.out,FI]),<-yZ.out]
   |false=>
    go_wp2_with fail;go_quiet_grown (first|(go_at_fn g;refine Calls.grown_of (sO _ _)));have S2:Aside (SWK enc k w0 blk off d (grow (wr.drewN nq) osq)):=S1.out.grown nq osq;clear yX yY sO S1;generalize grow (wr.drewN nq) osq=w2 at S2 ⊢;clear nq osq;go_wp2;go_roundg f
    case measure=>omega
    case rel=>
     refine ⟨f,i,md,aB _,rfl,by first|rfl|go_num,by omega,by omega,by omega,by omega,S2,?_⟩;show _=_;rw [<-HE.out,rz _ _ _ _ hlt (by rw [<-yZ.out,MZ.out,FI]),<-yZ.out]
  ·have hltz:¬ ((i:Int) < (j:Int)):=by omega
   have HI:dK (i=mZ p (b+1) m b):=by show _=_;rw [<-HE.out,ry _ _ _ _ hlt]
   clear HE;go_wp2;go_loopg [13] (i - 1 - a) (λkx s13 wr=>∃(n:Nat) (dk:Array α),s13=.int .i64 ((a+n:Nat):Int)/\a+n<=i - 1/\i - 1 - (a+n)<=kx/\dk.size=d.size/\Aside (SWK enc k w0 blk off dk wr)/\dK (dk=MP d a n))
   case atStart=>exact ⟨0,d,rfl,by omega,by omega,rfl,S1,rfl⟩
   case round=>
    clear S1;obtain ⟨n,dk,rfl,hn,hkx,hds,S1,HE⟩:=hrel;obtain ⟨c,hc⟩:=dG (a+n);rw [<-hc] at hn hkx ⊢;by_cases hl:c < i - 1
    ·have hlz:(c:Int) < (i:Int) - 1:=by omega
     have ba44:(c:Int) < (d.size:Int):=by omega
     have ec44:((c:Int)+1).toNat=c+1:=by omega
     have abG:(0:Int)<=(c:Int)+1:=by omega
     have abH:(c:Int)+1 < (d.size:Int):=by omega
     have rc44:IntKind.i64.wrap ((c:Int)+1)=(c:Int)+1:=by rw [IntKind.wrap_i64];omega
     have S2:Aside (SWK enc k w0 blk off (swp dk c (c+1)) ((wr.drew.setCells blk (off+c*k) (enc dk[c+1]!)).setCells blk (off+(c+1)*k) (enc dk[c]!))):=S1.out.swapped R c (c+1) (by omega) (by omega);have Ez:=S1.out.ld1 R (by omega) P c (by omega);have F3:=S1.out.ld1 R (by omega) P (c+1) (by omega);have F4:=S1.out.st1 R (by omega) P c (by omega) dk[c+1]!;have yW:=S1.out.st2 R (by omega) P c (c+1) (by omega) (by omega) dk[c+1]! dk[c]!;have QO:(enc dk[c]!).length=k:=R.hk _;have QS:(enc dk[c+1]!).length=k:=R.hk _;generalize enc dk[c]! =cI44 at S2 Ez yW QO;generalize enc dk[c+1]! =cJ44 at S2 F3 F4 yW QS;have HCn:dK (c=a+n):=hc;clear S1 hc;go_wp2_with fail;go_big_region_o;clear Ez F3 F4 yW;generalize (wr.drew.setCells blk (off+c*k) cJ44).setCells blk (off+(c+1)*k) cI44=w2 at S2 ⊢;go_wp2;go_roundg (i - 1 - (c+1))
     case measure=>omega
     case rel=>
      have:=HCn.out;refine ⟨n+1,swp dk c (c+1),by subst this;first|rfl|go_num,by omega,by omega,by rw [size_swp];exact hds,S2,?_⟩;show _=_;rw [MP,<-HE.out,<-this]
    ·have hlz:¬ ((c:Int) < (i:Int) - 1):=by omega
     have he:n=i - 1 - a:=by omega
     have HEn:dK (n=i - 1 - a):=he;clear he;go_wp2
     (try simp only [Exit.inBlock,Exit.then]);refine bodyPost_ret (results_none rfl _ _ _) rfl ?_
     refine ⟨rfl,?_⟩;rw [<-HI.out,<-HEn.out,<-HE.out];exact S1.out
#print axioms sA
variable {α:Type} [Inhabited α] {P:Program}
theorem qP (L:iK P k) (enc:α->List Value) (cf:α->α->Int) (g:Nat) (cb:Array Value) (blk off cap a m b:Nat) (d0 d:Array α) (w0 w:World)
  (hcmp:CmpLays P g cb enc k cf blk off d0.size w0) (eg:∀args w,(callFunc g args).run P w=.ok (.enter g args) w) (R:RowK enc k w0 blk off d0) (hs:d0.size=d.size) (S:SWK enc k w0 blk off d w) (h1:m - a≠1) (ha:a < m) (hm:b - m=1) (hb:b<=d.size) (hsz:d.size < 4611686018427387904):
  Calls P 156 #[.slice (some ⟨blk,off,none⟩) d.size cap,a,m,b,.func (.func g) #[] cb] w λe w'=>e=.returned (.tuple #[])/\SWK enc k w0 blk off (MQ d m (m - mZ (λh=>!ltOf cf d[m]! d[h]!) (b+1) a m)) w':=by
 have mixed:=L.mixed;have t0:=L.t0;have a0:=L.a0;have z0:=L.z0;have v0:=L.v0;have t3:=L.t3;have a3:=L.a3;have z3:=L.z3;have v3:=L.v3;have t4:=L.t4;have a4:=L.a4;have z4:=L.z4;have v4:=L.v4;have t40:=L.t40;have a40:=L.a40;have z40:=L.z40;have v40:=L.v40;have t104:=L.t104;have a104:=L.a104;have z104:=L.z104;have v104:=L.v104;have t161:=L.t161;have a161:=L.a161;have z161:=L.z161;have v161:=L.v161;have aE:=L.a44;have zE:=L.z44;have FG:=L.f156;have HC:Aside _:=hcmp;have S0:Aside (SWK enc k w0 blk off d w):=S;obtain ⟨p,hp⟩:∃p:Nat->Bool,p=λh=>!ltOf cf d[m]! d[h]!:=⟨_,rfl⟩
 rw [<-hp];have HP:dK _:=hp;clear S hcmp hp;have hz1:((m:Int) - (a:Int) ==1)=false:=by rw [Bool.eq_false_iff];intro h;rw [beq_iff_eq] at h;omega
 have hz2:((b:Int) - (m:Int) ==1)=true:=by rw [beq_iff_eq];omega
 go_enter FG,ntmps156;go_wp2;go_loopg [14,15] (b+1) (λkx MI UX wr=>∃(f i j:Nat),f<=kx/\MI=.int .i64 i/\UX=.int .i64 j/\a<=i/\i<=j/\j<=m/\j - i < f/\Aside (SWK enc k w0 blk off d wr)/\dK (mZ p f i j=mZ p (b+1) a m))
 case atStart=>exact ⟨b+1,a,m,aB _,rfl,rfl,aB _,by omega,aB _,by omega,S0,rfl⟩
 case round=>
  clear S0;obtain ⟨f,i,j,iU,rfl,rfl,Tc,hij,hjb,hff,S1,HE⟩:=hrel;by_cases hlt:i < j
  ·obtain ⟨f,rfl⟩:∃x,f=x+1:=⟨f - 1,by omega⟩
   have hltz:(i:Int) < (j:Int):=by omega
   obtain ⟨md,sZ⟩:=dG ((i+j) / 2);have emd:((i:Int)+(j:Int)) / 2=(md:Int):=by omega
   have yu:i<=md:=by omega
   have hm2:md < j:=by omega
   obtain ⟨x24,yl⟩:∃x,x=d[m]!:=⟨_,rfl⟩;obtain ⟨y24,ym⟩:∃x,x=d[md]!:=⟨_,rfl⟩;have ba24:(m:Int) < (d.size:Int):=by omega
   have bc24:(md:Int) < (d.size:Int):=by omega
   have yX:=S1.out.ld R (by omega) P m (by omega);have yY:=S1.out.ld R (by omega) P md (by omega);rw [<-yl] at yX;rw [<-ym] at yY;have sO:=S1.out.cmp HC.out (by omega) x24 y24;have MZ:dK (p md= !decide (cf x24 y24 < 0)):=by show _=_;rw [HP.out,yl,ym];rfl
   have yZ:dK (md=(i+j) / 2):=sZ;clear yl ym sZ;cases FI:decide (cf x24 y24 < 0) with
   |false=>
    go_wp2_with fail;go_quiet_grown (first|(go_at_fn g;refine Calls.grown_of (sO _ _)));have S2:Aside (SWK enc k w0 blk off d (grow (wr.drewN nq) osq)):=S1.out.grown nq osq;clear yX yY sO S1;generalize grow (wr.drewN nq) osq=w2 at S2 ⊢;clear nq osq;go_wp2;go_roundg f
    case measure=>omega
    case rel=>
     refine ⟨f,md+1,j,aB _,by go_num,rfl,by omega,by omega,hjb,by omega,S2,?_⟩;show _=_;rw [<-HE.out,Bf _ _ _ _ hlt (by rw [<-yZ.out,MZ.out,FI];rfl),<-yZ.out]
   |true=>
    go_wp2_with fail;go_quiet_grown (first|(go_at_fn g;refine Calls.grown_of (sO _ _)));have S2:Aside (SWK enc k w0 blk off d (grow (wr.drewN nq) osq)):=S1.out.grown nq osq;clear yX yY sO S1;generalize grow (wr.drewN nq) osq=w2 at S2 ⊢;clear nq osq;go_wp2;go_roundg f
    case measure=>omega
    case rel=>
     refine ⟨f,i,md,aB _,rfl,by first|rfl|go_num,by omega,by omega,by omega,by omega,S2,?_⟩;show _=_;rw [<-HE.out,rz _ _ _ _ hlt (by rw [<-yZ.out,MZ.out,FI];rfl),<-yZ.out]
  ·have hltz:¬ ((i:Int) < (j:Int)):=by omega
   have HI:dK (i=mZ p (b+1) a m):=by show _=_;rw [<-HE.out,ry _ _ _ _ hlt]
   clear HE;go_wp2;go_loopg [17] (m - i) (λkx s17 wr=>∃(n:Nat) (dk:Array α),s17=.int .i64 ((m - n:Nat):Int)/\n<=m - i/\m - n - i<=kx/\dk.size=d.size/\Aside (SWK enc k w0 blk off dk wr)/\dK (dk=MQ d m n))
   case atStart=>exact ⟨0,d,rfl,by omega,by omega,rfl,S1,rfl⟩
   case round=>
    clear S1;obtain ⟨n,dk,rfl,hn,hkx,hds,S1,HE⟩:=hrel;obtain ⟨c,hc⟩:=dG (m - n);rw [<-hc] at hkx ⊢;by_cases hl:i < c
    ·obtain ⟨c,rfl⟩:∃x,c=x+1:=⟨c - 1,by omega⟩
     have hlz:(i:Int) < (c:Int)+1:=by omega
     have agA:decide ((i:Int) < (c:Int)+1)=true:=decide_eq_true hlz;have ba44:(c:Int) < (d.size:Int):=by omega
     have ec44:((c:Int)+1).toNat=c+1:=by omega
     have abG:(0:Int)<=(c:Int)+1:=by omega
     have abH:(c:Int)+1 < (d.size:Int):=by omega
     have rc44:IntKind.i64.wrap ((c:Int)+1)=(c:Int)+1:=by rw [IntKind.wrap_i64];omega
     have S2:Aside (SWK enc k w0 blk off (swp dk (c+1) c) ((wr.drew.setCells blk (off+(c+1)*k) (enc dk[c]!)).setCells blk (off+c*k) (enc dk[c+1]!))):=S1.out.swapped R (c+1) c (by omega) (by omega);have Ez:=S1.out.ld1 R (by omega) P (c+1) (by omega);have F3:=S1.out.ld1 R (by omega) P c (by omega);have F4:=S1.out.st1 R (by omega) P (c+1) (by omega) dk[c]!;have yW:=S1.out.st2 R (by omega) P (c+1) c (by omega) (by omega) dk[c]! dk[c+1]!;have QO:(enc dk[c+1]!).length=k:=R.hk _;have QS:(enc dk[c]!).length=k:=R.hk _;generalize enc dk[c+1]! =cI44 at S2 Ez yW QO;generalize enc dk[c]! =cJ44 at S2 F3 F4 yW QS;have HCn:dK (c+1=m - n):=hc;clear S1 hc;go_wp2_with fail;go_big_region_o;clear Ez F3 F4 yW;generalize (wr.drew.setCells blk (off+(c+1)*k) cJ44).setCells blk (off+c*k) cI44=w2 at S2 ⊢;go_wp2;go_roundg (c - i)
     case measure=>omega
     case rel=>
      have:=HCn.out;refine ⟨n+1,swp dk (c+1) c,by first|rfl|(rw [show m - (n+1)=c from by omega]),by omega,by omega,by rw [size_swp];exact hds,S2,?_⟩;show _=_;rw [MQ,<-HE.out,<-this];rfl
    ·have hlz:¬ ((i:Int) < (c:Int)):=by omega
     have he:n=m - i:=by omega
     have HEn:dK (n=m - i):=he;clear he;go_wp2
     (try simp only [Exit.inBlock,Exit.then]);refine bodyPost_ret (results_none rfl _ _ _) rfl ?_
     refine ⟨rfl,?_⟩;rw [<-HI.out,<-HEn.out,<-HE.out];exact S1.out
#print axioms qP
variable {α:Type} [Inhabited α] {P:Program}
theorem pT:∀(f:Nat) (d:Array α) (m i j:Nat),(lz f d m i j).size=d.size
 |0,_,_,_,_=>rfl
 |f+1,d,m,i,j=>by
  rw [lz];split
  ·exact fh _ _ _ _
  ·split
   ·rw [pT f,fh]
   ·rw [pT f,fh]
theorem kZ (lt:α->α->Bool):∀(f:Nat) (d:Array α) (a m b:Nat),(kH lt f d a m b).size=d.size
 |0,_,_,_,_=>rfl
 |f+1,d,a,m,b=>by
  have h1:(if lB lt d a m b < m/\m < (a+b) / 2+m - lB lt d a m b then lz (b+1) d m (m - lB lt d a m b) ((a+b) / 2+m - lB lt d a m b - m) else d).size=d.size:=by
   split
   ·exact pT _ _ _ _ _
   ·rfl
  rw [kH];split
  ·exact rS _ _ _
  ·split
   ·exact rT _ _ _
   ·dsimp only
    split
    ·rw [kZ lt f]
     split
     ·rw [kZ lt f];exact h1
     ·exact h1
    ·split
     ·rw [kZ lt f];exact h1
     ·exact h1
theorem qQ (L:iK P k) (enc:α->List Value) (cf:α->α->Int) (g:Nat) (cb:Array Value) (blk off cap N a m b M s e:Nat) (d0 d d1 d2 d3:Array α) (w0 w:World)
  (hcmp:CmpLays P g cb enc k cf blk off d0.size w0) (eg:∀args w,(callFunc g args).run P w=.ok (.enter g args) w) (R:RowK enc k w0 blk off d0) (hs:d0.size=d.size) (hN:d.size=N) (S:SWK enc k w0 blk off d w) (h1:m - a≠1) (h2:b - m≠1) (ha:a < m) (hm:m < b) (hb:b<=N) (hsz:N < 4611686018427387904)
  (hM:M=(a+b) / 2) (hS:s=lB (ltOf cf) d a m b) (he:e=M+m - s)
  (k1:s < m->m < e->∀w,SWK enc k w0 blk off d w->Calls P 234 #[.slice (some ⟨blk,off,none⟩) N cap,s,m,e,.func (.func g) #[] cb] w λx w'=>x=.returned (.tuple #[])/\SWK enc k w0 blk off d1 w')
  (n1:¬ (s < m/\m < e)->∀w,SWK enc k w0 blk off d w->SWK enc k w0 blk off d1 w)
  (k2:a < s->s < M->∀w,SWK enc k w0 blk off d1 w->Calls P 156 #[.slice (some ⟨blk,off,none⟩) N cap,a,s,M,.func (.func g) #[] cb] w λx w'=>x=.returned (.tuple #[])/\SWK enc k w0 blk off d2 w')
  (n2:¬ (a < s/\s < M)->∀w,SWK enc k w0 blk off d1 w->SWK enc k w0 blk off d2 w)
  (k3:M < e->e < b->∀w,SWK enc k w0 blk off d2 w->Calls P 156 #[.slice (some ⟨blk,off,none⟩) N cap,M,e,b,.func (.func g) #[] cb] w λx w'=>x=.returned (.tuple #[])/\SWK enc k w0 blk off d3 w')
  (n3:¬ (M < e/\e < b)->∀w,SWK enc k w0 blk off d2 w->SWK enc k w0 blk off d3 w):
  Calls P 156 #[.slice (some ⟨blk,off,none⟩) N cap,a,m,b,.func (.func g) #[] cb] w λx w'=>x=.returned (.tuple #[])/\SWK enc k w0 blk off d3 w':=by
 have mixed:=L.mixed;have t0:=L.t0;have a0:=L.a0;have z0:=L.z0;have v0:=L.v0;have t3:=L.t3;have a3:=L.a3;have z3:=L.z3;have v3:=L.v3;have t4:=L.t4;have a4:=L.a4;have z4:=L.z4;have v4:=L.v4;have t40:=L.t40;have a40:=L.a40;have z40:=L.z40;have v40:=L.v40;have t104:=L.t104;have a104:=L.a104;have z104:=L.z104;have v104:=L.v104;have t161:=L.t161;have a161:=L.a161;have z161:=L.z161;have v161:=L.v161;have aE:=L.a44;have zE:=L.z44;have FG:=L.f156;have agB:∀args w,(callFunc 234 args).run P w=.ok (.enter 234 args) w:=Kc L;have aeD:∀args w,(callFunc 156 args).run P w=.ok (.enter 156 args) w:=AU L;have HC:Aside _:=hcmp;have S0:Aside (SWK enc k w0 blk off d w):=S;have K1:Aside _:=k1;have K2:Aside _:=k2;have K3:Aside _:=k3;have N1:Aside _:=n1;have N2:Aside _:=n2;have N3:Aside _:=n3;obtain ⟨p,hp⟩:∃p:Nat->Bool,p=λh=>!ltOf cf d[M+m - 1 - h]! d[h]!:=⟨_,rfl⟩
 obtain ⟨lo,hlo⟩:=dG ((if m > M then M+m - b else a));obtain ⟨hi,hhi⟩:=dG ((if m > M then M else m));have HS:dK (s=mZ p (b+1) lo hi):=by show _=_;rw [hS,lB,hp,hlo,hhi,hM]
 have HP:dK _:=hp;clear S hcmp hp hS k1 k2 k3 n1 n2 n3;have hz1:((m:Int) - (a:Int) ==1)=false:=by rw [Bool.eq_false_iff];intro h;rw [beq_iff_eq] at h;omega
 have hz2:((b:Int) - (m:Int) ==1)=false:=by rw [Bool.eq_false_iff];intro h;rw [beq_iff_eq] at h;omega
 have eM:((a:Int)+(b:Int)) / 2=(M:Int):=by omega
 obtain ⟨nn,hnn⟩:∃x,x=M+m:=⟨_,rfl⟩;have enn:(M:Int)+(m:Int)=(nn:Int):=by omega
 obtain ⟨pp,Yd⟩:∃x,x=nn - 1:=⟨_,rfl⟩;have epp:(nn:Int) - 1=(pp:Int):=by omega
 have hM1:a < M:=by omega
 have hM2:M < b:=by omega
 have HM:dK (M=(a+b) / 2):=hM;have HEe:dK (e=M+m - s):=he;have HNN:dK (nn=M+m):=hnn;have HPP:dK (pp=nn - 1):=Yd;have q1:lo<=hi/\hi<=m/\hi<=M/\a<=lo/\nn<=lo+b:=by
  by_cases c:m > M
  ·rw [if_pos c] at hlo hhi;omega
  ·rw [if_neg c] at hlo hhi;omega
 obtain ⟨q1,q2,q3,q4,q5⟩:=q1;by_cases hmM:M < m
 case' pos=>
  rw [if_pos hmM] at hlo hhi;have hmz:(M:Int) < (m:Int):=by omega
  have elo:(nn:Int) - (b:Int)=(lo:Int):=by omega
  have QT:dK (hi=M):=hhi;clear hlo hhi hM he hnn Yd;go_enter FG,ntmps156;go_wp2;go_loopg [20,21] (b+1) (λkx MI UX wr=>∃(f i j:Nat),f<=kx/\MI=.int .i64 i/\UX=.int .i64 j/\lo<=i/\i<=j/\j<=hi/\j - i < f/\Aside (SWK enc k w0 blk off d wr)/\dK (mZ p f i j=mZ p (b+1) lo hi))
  case atStart=>exact ⟨b+1,lo,hi,aB _,rfl,by rw [QT.out],aB _,q1,aB _,by omega,S0,rfl⟩
 case' neg=>
  rw [if_neg hmM] at hlo hhi;have hmz:¬ ((M:Int) < (m:Int)):=by omega
  have QT:dK (lo=a/\hi=m):=⟨hlo,hhi⟩;clear hlo hhi hM he hnn Yd;go_enter FG,ntmps156;go_wp2;go_loopg [20,21] (b+1) (λkx MI UX wr=>∃(f i j:Nat),f<=kx/\MI=.int .i64 i/\UX=.int .i64 j/\lo<=i/\i<=j/\j<=hi/\j - i < f/\Aside (SWK enc k w0 blk off d wr)/\dK (mZ p f i j=mZ p (b+1) lo hi))
  case atStart=>exact ⟨b+1,lo,hi,aB _,by rw [QT.out.1],by rw [QT.out.2],aB _,q1,aB _,by omega,S0,rfl⟩
 all_goals
  clear S0;obtain ⟨f,i,j,iU,rfl,rfl,Tc,hij,hjb,hff,S1,HE⟩:=hrel;by_cases hlt:i < j
  ·obtain ⟨f,rfl⟩:∃x,f=x+1:=⟨f - 1,by omega⟩
   have hltz:(i:Int) < (j:Int):=by omega
   obtain ⟨md,sZ⟩:=dG ((i+j) / 2);have emd:((i:Int)+(j:Int)) / 2=(md:Int):=by omega
   have yu:i<=md:=by omega
   have hm2:md < j:=by omega
   have hNN:=HNN.out;have hPP:=HPP.out;obtain ⟨q,hq⟩:=dG (pp - md);have hqm:md<=pp:=by omega
   have ec24:((pp:Int) - (md:Int)).toNat=q:=by omega
   have agC:pp - md=q:=by omega
   have agD:(0:Int)<=(pp:Int) - (md:Int):=by omega
   have agE:(pp:Int) - (md:Int) < (N:Int):=by omega
   have rc24:IntKind.i64.wrap ((pp:Int) - (md:Int))=(pp:Int) - (md:Int):=by rw [IntKind.wrap_i64];omega
   have hqM:q=M+m - 1 - md:=by omega
   obtain ⟨x24,yl⟩:∃x,x=d[q]!:=⟨_,rfl⟩;obtain ⟨y24,ym⟩:∃x,x=d[md]!:=⟨_,rfl⟩;have ba24:(q:Int) < (N:Int):=by omega
   have bc24:(md:Int) < (N:Int):=by omega
   have yX:=S1.out.ld R (by omega) P q (by omega);have yY:=S1.out.ld R (by omega) P md (by omega);rw [<-yl] at yX;rw [<-ym] at yY;have sO:=S1.out.cmp HC.out (by omega) x24 y24;have MZ:dK (p md= !decide (cf x24 y24 < 0)):=by show _=_;rw [HP.out,yl,ym,hqM];rfl
   have yZ:dK (md=(i+j) / 2):=sZ;clear yl ym sZ hNN hPP hqM hq;cases FI:decide (cf x24 y24 < 0) with
   |false=>
    go_wp2_with fail;go_quiet_grown (first|(go_at_fn g;refine Calls.grown_of (sO _ _)));have S2:Aside (SWK enc k w0 blk off d (grow (wr.drewN nq) osq)):=S1.out.grown nq osq;clear yX yY sO S1;generalize grow (wr.drewN nq) osq=w2 at S2 ⊢;clear nq osq;go_wp2;go_roundg f
    case measure=>omega
    case rel=>
     refine ⟨f,md+1,j,aB _,by go_num,rfl,by omega,by omega,hjb,by omega,S2,?_⟩;show _=_;rw [<-HE.out,Bf _ _ _ _ hlt (by rw [<-yZ.out,MZ.out,FI];rfl),<-yZ.out]
   |true=>
    go_wp2_with fail;go_quiet_grown (first|(go_at_fn g;refine Calls.grown_of (sO _ _)));have S2:Aside (SWK enc k w0 blk off d (grow (wr.drewN nq) osq)):=S1.out.grown nq osq;clear yX yY sO S1;generalize grow (wr.drewN nq) osq=w2 at S2 ⊢;clear nq osq;go_wp2;go_roundg f
    case measure=>omega
    case rel=>
     refine ⟨f,i,md,aB _,rfl,by first|rfl|go_num,by omega,by omega,by omega,by omega,S2,?_⟩;show _=_;rw [<-HE.out,rz _ _ _ _ hlt (by rw [<-yZ.out,MZ.out,FI];rfl),<-yZ.out]
  ·have hltz:¬ ((i:Int) < (j:Int)):=by omega
   have hI:i=s:=by rw [HS.out,<-HE.out,ry _ _ _ _ hlt]
   clear HE HS;subst hI;have hE:=HEe.out;have hNN:=HNN.out;have ee:(nn:Int) - (i:Int)=(e:Int):=by omega
   have w1:i<=m:=by omega
   have w2:i<=M:=by omega
   have w3:a<=i:=by omega
   have w4:m < e↔i < M:=by omega
   have w5:M < e↔i < m:=by omega
   clear hE hNN;by_cases c1:i < m <;> by_cases c2:i < M <;> by_cases c3:a < i <;> by_cases c4:e < b;all_goals
    simp only [c1,c2,iff_true,iff_false] at w4 w5;go_wp2_with (first
     |(go_at_fn 234;refine (K1.out (by omega) (by omega) _ S1.out).mono ?_;rintro x w1 ⟨rfl,hw1⟩)
     |(go_at_fn 156;refine (K2.out (by omega) (by omega) _ (by first|exact hw1|exact N1.out (by omega) _ S1.out)).mono ?_;rintro x w2 ⟨rfl,eV⟩)
     |(go_at_fn 156;refine (K3.out (by omega) (by omega) _ (by first|exact eV|exact N2.out (by omega) _ hw1|exact N2.out (by omega) _ (N1.out (by omega) _ S1.out))).mono ?_;rintro x w3 ⟨rfl,jD⟩))
    go_end0;refine ⟨rfl,?_⟩;first|exact jD|exact N3.out (by omega) _ eV|exact N3.out (by omega) _ (N2.out (by omega) _ hw1)|exact N3.out (by omega) _ (N2.out (by omega) _ (N1.out (by omega) _ S1.out))
#print axioms qQ
variable {α:Type} [Inhabited α] {P:Program}
theorem nT (p:Nat->Bool):∀(f lo hi:Nat),lo<=hi->lo<=mZ p f lo hi/\mZ p f lo hi<=hi
 |0,lo,hi,h=> ⟨aB _,h⟩
 |f+1,lo,hi,h=>by
  by_cases c:lo < hi
  ·cases hp:p ((lo+hi) / 2) with
   |true=>
    rw [Bf _ _ _ _ c hp];have:=nT p f ((lo+hi) / 2+1) hi (by omega);omega
   |false=>
    rw [rz _ _ _ _ c hp];have:=nT p f lo ((lo+hi) / 2) (by omega);omega
  ·rw [ry _ _ _ _ c];exact ⟨aB _,h⟩
theorem Dm (lt:α->α->Bool) (d:Array α) (a m b:Nat) (ha:a < m) (hm:m < b):a<=lB lt d a m b/\lB lt d a m b<=m/\lB lt d a m b<=(a+b) / 2/\(a+b) / 2+m<=lB lt d a m b+b:=by
 unfold lB;by_cases c:m > (a+b) / 2
 ·rw [if_pos c,if_pos c]
  have:=nT (λc=>!lt d[(a+b) / 2+m - 1 - c]! d[c]!) (b+1) ((a+b) / 2+m - b) ((a+b) / 2) (by omega);omega
 ·rw [if_neg c,if_neg c]
  have:=nT (λc=>!lt d[(a+b) / 2+m - 1 - c]! d[c]!) (b+1) a m (by omega);omega
theorem xG (L:iK P k) (enc:α->List Value) (cf:α->α->Int) (g:Nat) (cb:Array Value) (blk off cap N:Nat) (d0:Array α) (w0:World)
  (hcmp:CmpLays P g cb enc k cf blk off d0.size w0) (eg:∀args w,(callFunc g args).run P w=.ok (.enter g args) w) (R:RowK enc k w0 blk off d0) (hN:d0.size=N) (hsz:N < 4611686018427387904):
  ∀(f:Nat) (d:Array α) (a m b:Nat) (w:World),b - a<=f->d.size=N->SWK enc k w0 blk off d w->a < m->m < b->b<=N->
  Calls P 156 #[.slice (some ⟨blk,off,none⟩) N cap,a,m,b,.func (.func g) #[] cb] w λe w'=>e=.returned (.tuple #[])/\SWK enc k w0 blk off (kH (ltOf cf) f d a m b) w':=by
 intro f;induction f with
 |zero=>intro d a m b w hf _ _ ha hm;omega
 |succ f ih=>
  intro d a m b w hf hd S ha hm hb;by_cases h1:m - a=1
  ·have:=sA L enc cf g cb blk off cap a m b d0 d w0 w hcmp eg R (by omega) S h1 hm (by omega) (by omega)
   rw [hd] at this;rw [kH,if_pos h1];exact this
  by_cases h2:b - m=1
  ·have:=qP L enc cf g cb blk off cap a m b d0 d w0 w hcmp eg R (by omega) S h1 ha h2 (by omega) (by omega)
   rw [hd] at this;rw [kH,if_neg h1,if_pos h2];exact this
  obtain ⟨b1,b2,b3,b4⟩:=Dm (ltOf cf) d a m b ha hm;rw [kH,if_neg h1,if_neg h2];dsimp only;obtain ⟨M,hM⟩:=dG ((a+b) / 2);rw [<-hM] at b3 b4 ⊢;obtain ⟨s,hs⟩:=dG (lB (ltOf cf) d a m b);rw [<-hs] at b1 b2 b3 b4 ⊢;obtain ⟨e,he⟩:=dG (M+m - s);rw [<-he];obtain ⟨d1,uf⟩:=dG ((if s < m/\m < e then lz (b+1) d m (m - s) (e - m) else d));have hz1:d1.size=N:=by
   rw [uf];split
   ·rw [pT];exact hd
   ·exact hd
  rw [<-uf];obtain ⟨d2,hd2⟩:=dG ((if a < s/\s < M then kH (ltOf cf) f d1 a s M else d1));have hz2:d2.size=N:=by
   rw [hd2];split
   ·rw [kZ];exact hz1
   ·exact hz1
  rw [<-hd2];refine qQ L enc cf g cb blk off cap N a m b M s e d0 d d1 d2 _ w0 w hcmp eg R (by omega) hd S h1 h2 ha hm hb hsz hM hs he ?_ ?_ ?_ ?_ ?_ ?_
  ·intro c1 c2 w1 S1
   have:=Dl L enc (.func (.func g) #[] cb) blk off cap s m e (b+1) d0 d w0 w1 R (by omega) S1 c1 c2 (by omega) (by omega) (by omega);rw [hd] at this;rw [uf,if_pos ⟨c1,c2⟩];exact this
  ·intro c w1 S1
   rw [uf,if_neg c];exact S1
  ·intro c1 c2 w1 S1
   rw [hd2,if_pos ⟨c1,c2⟩];exact ih d1 a s M w1 (by omega) hz1 S1 c1 c2 (by omega)
  ·intro c w1 S1
   rw [hd2,if_neg c];exact S1
  ·intro c1 c2 w1 S1
   rw [if_pos ⟨c1,c2⟩];exact ih d2 M e b w1 (by omega) hz2 S1 c1 c2 (by omega)
  ·intro c w1 S1
   rw [if_neg c];exact S1
#print axioms xG
variable {α:Type} [Inhabited α] {P:Program}
theorem AV (lt:α->α->Bool) (hS:SWO lt) (d:Array α) (a b:Nat) (h:a<=b) (hb:b<=d.size):(Sort.insertionSort lt d a b).size=d.size:=(insertionSort_holds hS d a b h hb).1.1
theorem GD (lt:α->α->Bool) (f:Nat) (d:Array α) (a n:Nat) (h:a+20<=n):kN lt (f+1) d a n=kN lt f (Sort.insertionSort lt d a (a+20)) (a+20) n:=by rw [kN,if_pos h]
theorem GF (lt:α->α->Bool) (f:Nat) (d:Array α) (a n:Nat) (h:¬ a+20<=n):kN lt (f+1) d a n=Sort.insertionSort lt d a n:=by rw [kN,if_neg h]
theorem GG (lt:α->α->Bool) (f:Nat) (d:Array α) (a k n:Nat) (h:a+2*k<=n):lC lt (f+1) d a k n=lC lt f (kH lt (n+1) d a (a+k) (a+2*k)) (a+2*k) k n:=by rw [lC,if_pos h]
theorem GH (lt:α->α->Bool) (f:Nat) (d:Array α) (a k n:Nat) (h:¬ a+2*k<=n) (h2:a+k < n):lC lt (f+1) d a k n=kH lt (n+1) d a (a+k) n:=by rw [lC,if_neg h,if_pos h2]
theorem GI (lt:α->α->Bool) (f:Nat) (d:Array α) (a k n:Nat) (h:¬ a+2*k<=n) (h2:¬ a+k < n):lC lt (f+1) d a k n=d:=by rw [lC,if_neg h,if_neg h2]
theorem xH (lt:α->α->Bool) (f:Nat) (d:Array α) (k n:Nat) (h:k < n):jZ lt (f+1) d k n=jZ lt f (lC lt (n+1) d 0 k n) (2*k) n:=by rw [jZ,if_pos h]
theorem GJ (lt:α->α->Bool) (f:Nat) (d:Array α) (k n:Nat) (h:¬ k < n):jZ lt f d k n=d:=by
 cases f with
 |zero=>rfl
 |succ f=>rw [jZ,if_neg h]
theorem Dn (L:iK P k) (LI:SlLaysF0.n20 P insR_ren) (enc:α->List Value) (cf:α->α->Int) (g:Nat) (cb:Array Value) (blk off cap N:Nat) (d:Array α) (w:World)
  (hcmp:CmpLays P g cb enc k cf blk off N w) (eg:∀args w,(callFunc g args).run P w=.ok (.enter g args) w) (R:RowK enc k w blk off d) (hd:d.size=N) (S:SWK enc k w blk off d w) (hO:SWO (ltOf cf)) (hsz:N < 1152921504606846976):
  Calls P 96 #[.slice (some ⟨blk,off,none⟩) N cap,N,.func (.func g) #[] cb] w λe w'=>e=.returned (.tuple #[])/\SWK enc k w blk off (qI (ltOf cf) d) w':=by
 have mixed:=L.mixed;have t0:=L.t0;have a0:=L.a0;have z0:=L.z0;have v0:=L.v0;have t3:=L.t3;have a3:=L.a3;have z3:=L.z3;have v3:=L.v3;have t4:=L.t4;have a4:=L.a4;have z4:=L.z4;have v4:=L.v4;have t40:=L.t40;have a40:=L.a40;have z40:=L.z40;have v40:=L.v40;have t104:=L.t104;have a104:=L.a104;have z104:=L.z104;have v104:=L.v104;have FG:=L.f96;have agF:∀args w,(callFunc 155 args).run P w=.ok (.enter 155 args) w:=LI.f20.enters rfl;have aeD:∀args w,(callFunc 156 args).run P w=.ok (.enter 156 args) w:=AU L;have cI:Aside (∀(a b:Nat) (dk:Array α) (wr:World),dk.size=N->SWK enc k w blk off dk wr->a<=b->b<=N->Calls P 155 #[.slice (some ⟨blk,off,none⟩) N cap,a,b,.func (.func g) #[] cb] wr λe w'=>e=.returned (.tuple #[])/\SWK enc k w blk off (Sort.insertionSort (ltOf cf) dk a b) w'):=by
  intro a b dk wr hk S1 hab hb;have:=AnyQ.insertionSortCmpFunc_w LI k L.a44 L.z44 enc cf g cb blk off cap a b d dk w wr eg (by rw [hd];exact hcmp) R (by omega) S1 hO hab (by omega) (by omega);rw [hk] at this;exact this
 have cM:Aside (∀(a m b:Nat) (dk:Array α) (wr:World),dk.size=N->SWK enc k w blk off dk wr->a < m->m < b->b<=N->Calls P 156 #[.slice (some ⟨blk,off,none⟩) N cap,a,m,b,.func (.func g) #[] cb] wr λe w'=>e=.returned (.tuple #[])/\SWK enc k w blk off (kH (ltOf cf) (N+1) dk a m b) w'):=λa m b dk wr hk S1 ha hm hb=>
  xG L enc cf g cb blk off cap N d w (by rw [hd];exact hcmp) eg R hd (by omega) (N+1) dk a m b wr (by omega) hk S1 ha hm hb
 have HO:Aside (SWO (ltOf cf)):=hO;have S0:Aside (SWK enc k w blk off d w):=S;have HG:dK (qI (ltOf cf) d=jZ (ltOf cf) (N+1) (kN (ltOf cf) (N+1) d 0 N) 20 N):=by show _=_;rw [qI,hd]
 clear S hcmp hO;go_enter FG,ntmps96;go_wp2;go_loopg [7,8] (N+1) (λkx s7 s8 wr=>∃(f i b:Nat) (dk:Array α),f<=kx/\s7=.int .i64 i/\s8=.int .i64 b/\b=i+20/\i<=N/\N < f+i/\dk.size=N/\Aside (SWK enc k w blk off dk wr)/\dK (kN (ltOf cf) f dk i N=kN (ltOf cf) (N+1) d 0 N))
 case atStart=>exact ⟨N+1,0,20,d,aB _,rfl,rfl,rfl,aS _,by omega,hd,S0,rfl⟩
 case round=>
  clear S0;obtain ⟨f,i,b,dk,iU,rfl,rfl,hb,hi,hff,hdk,S1,HE⟩:=hrel;obtain ⟨f,rfl⟩:∃x,f=x+1:=⟨f - 1,by omega⟩;by_cases QJ:b<=N
  ·have hz:(b:Int)<=(N:Int):=by omega
   have hc:=cI.out i b dk _ hdk S1.out (by omega) QJ;have hs2:(Sort.insertionSort (ltOf cf) dk i b).size=N:=by rw [AV _ HO.out _ _ _ (by omega) (by omega)];exact hdk
   have HB:dK (b=i+20):=hb;clear hb;go_wp2_with (go_at_fn 155;refine hc.mono ?_;rintro e w1 ⟨rfl,hw1⟩)
   go_roundg f
   case measure=>omega
   case rel=>
    have hb:=HB.out;refine ⟨f,b,b+20,Sort.insertionSort (ltOf cf) dk i b,aB _,rfl,by go_num,rfl,QJ,by omega,hs2,hw1,?_⟩;show _=_;rw [<-HE.out,GD _ _ _ _ _ (by omega),<-hb]
  ·have hz:¬ ((b:Int)<=(N:Int)):=by omega
   have hc:=cI.out i N dk _ hdk S1.out hi (aB _);have hs2:(Sort.insertionSort (ltOf cf) dk i N).size=N:=by rw [AV _ HO.out _ _ _ (by omega) (by omega)];exact hdk
   have HI:dK (Sort.insertionSort (ltOf cf) dk i N=kN (ltOf cf) (N+1) d 0 N):=by show _=_;rw [<-HE.out,GF _ _ _ _ _ (by omega)]
   clear HE hb;go_wp2_with (go_at_fn 155;refine hc.mono ?_;rintro e w1 ⟨rfl,hw1⟩)
   have S2:Aside (SWK enc k w blk off (Sort.insertionSort (ltOf cf) dk i N) w1):=hw1;clear hw1 hc S1;rw [HI.out] at S2 hs2;clear HI;obtain ⟨dI,hdI⟩:∃x,x=kN (ltOf cf) (N+1) d 0 N:=⟨_,rfl⟩;rw [<-hdI] at S2 hs2;have HDI:dK (dI=kN (ltOf cf) (N+1) d 0 N):=hdI;clear hdI;go_loopg [6,7,8,9] (N+1) (λkx s6 s7 s8 s9 wr=>∃(f kk:Nat) (dk:Array α),f<=kx/\s6=.int .i64 kk/\0 < kk/\N < f+kk/\kk<=2*N+20/\dk.size=N/\Aside (SWK enc k w blk off dk wr)/\dK (jZ (ltOf cf) f dk kk N=jZ (ltOf cf) (N+1) dI 20 N))
   case atStart=>exact ⟨N+1,20,dI,aB _,rfl,by omega,by omega,by omega,hs2,S2,rfl⟩
   case round=>
    clear S2;obtain ⟨f,kk,dj,agW,rfl,hk0,agX,hk2,hdj,S3,VQ⟩:=hrel;by_cases hkN:kk < N
    ·obtain ⟨f,rfl⟩:∃x,f=x+1:=⟨f - 1,by omega⟩
     have hz2:(kk:Int) < (N:Int):=by omega
     go_wp2;go_loopg [7,8] (N+1) (λkx s7 s8 wr=>∃(h i b:Nat) (dk:Array α),h<=kx/\s7=.int .i64 i/\s8=.int .i64 b/\b=i+2*kk/\i<=N/\N < h+i/\dk.size=N/\Aside (SWK enc k w blk off dk wr)/\dK (lC (ltOf cf) h dk i kk N=lC (ltOf cf) (N+1) dj 0 kk N))
     case atStart=>exact ⟨N+1,0,2*kk,dj,aB _,rfl,by go_num,by omega,aS _,by omega,hdj,S3,rfl⟩
     case round=>
      clear S3;obtain ⟨h,i,b,dk,Zm,rfl,rfl,hb,hi,hhh,hdk,S4,HE3⟩:=hrel;obtain ⟨h,rfl⟩:∃x,h=x+1:=⟨h - 1,by omega⟩;obtain ⟨mm,hmm⟩:∃x,x=i+kk:=⟨_,rfl⟩;have emm:(i:Int)+(kk:Int)=(mm:Int):=by omega
      by_cases QJ:b<=N
      ·have hz3:(b:Int)<=(N:Int):=by omega
       have hc:=cM.out i mm b dk _ hdk S4.out (by omega) (by omega) QJ;have hs3:(kH (ltOf cf) (N+1) dk i mm b).size=N:=by rw [kZ];exact hdk
       have HB:dK (b=i+2*kk):=hb;have HMM:dK (mm=i+kk):=hmm;have wC:i < b:=by omega
       clear hb hmm;go_wp2_with (go_at_fn 156;refine hc.mono ?_;rintro e w1 ⟨rfl,hw1⟩)
       go_roundg h
       case measure=>omega
       case rel=>
        have hb:=HB.out;refine ⟨h,b,b+2*kk,kH (ltOf cf) (N+1) dk i mm b,aB _,rfl,by go_num,rfl,QJ,by omega,hs3,hw1,?_⟩;show _=_;rw [<-HE3.out,GG _ _ _ _ _ _ (by omega),<-hb,<-HMM.out]
      ·have hz3:¬ ((b:Int)<=(N:Int)):=by omega
       by_cases hmN:mm < N
       ·have hz4:(mm:Int) < (N:Int):=by omega
        have hc:=cM.out i mm N dk _ hdk S4.out (by omega) hmN (aB _);have hs3:(kH (ltOf cf) (N+1) dk i mm N).size=N:=by rw [kZ];exact hdk
        have HX:dK (jZ (ltOf cf) f (kH (ltOf cf) (N+1) dk i mm N) (2*kk) N=jZ (ltOf cf) (N+1) dI 20 N):=by
         show _=_;rw [<-VQ.out,xH _ _ _ _ _ hkN,<-HE3.out,GH _ _ _ _ _ _ (by omega) (by omega),hmm]
        clear HE3 VQ hb hmm;go_wp2_with (go_at_fn 156;refine hc.mono ?_;rintro e w1 ⟨rfl,hw1⟩)
        go_roundg f
        case measure=>omega
        case rel=>
         exact ⟨f,2*kk,kH (ltOf cf) (N+1) dk i mm N,aB _,by go_num,by omega,by omega,by omega,hs3,hw1,HX⟩
       ·have hz4:¬ ((mm:Int) < (N:Int)):=by omega
        have HX:dK (jZ (ltOf cf) f dk (2*kk) N=jZ (ltOf cf) (N+1) dI 20 N):=by
         show _=_;rw [<-VQ.out,xH _ _ _ _ _ hkN,<-HE3.out,GI _ _ _ _ _ _ (by omega) (by omega)]
        clear HE3 VQ hb hmm;go_wp2;go_roundg f
        case measure=>omega
        case rel=>
         exact ⟨f,2*kk,dk,aB _,by go_num,by omega,by omega,by omega,hdk,S4,HX⟩
    ·have hz2:¬ ((kk:Int) < (N:Int)):=by omega
     have HX:dK (dj=qI (ltOf cf) d):=by show _=_;rw [HG.out,<-HDI.out,<-VQ.out,GJ _ _ _ _ _ hkN]
     clear VQ;go_wp2;go_end0;refine ⟨rfl,?_⟩;rw [<-HX.out];exact S3.out
#print axioms Dn
end
end Go.Proofs.YtgdaahffmcfhpaaGreatDoor
