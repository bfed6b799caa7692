/- Lemmas on the way: PCdG PCdG2 PShPlain PShSumL PPl PKw. -/
import Derived.Deep.Cut
import Derived.Test.YtgdaahffmcfhpaaGreatDoorO06
import Derived.Test.YtgdaahffmcfhpaaGreatDoorO10
set_option maxRecDepth 100000
set_option maxHeartbeats 8000000
namespace Go.Proofs.YtgdaahffmcfhpaaGreatDoor
open aA
open Tryz
namespace Pt.Cd
theorem num_is (d:List UInt8) (h:(numR d 0).2.1=0):
  d.take (numR d 0).1=numU (numR d 0).2.2/\(numU (numR d 0).2.2).length=(numR d 0).1/\(numR d 0).1<=d.length:=by
 have hle:=numR_le d 0 (aS _);unfold numR at h ⊢;rw [bz] at h ⊢;cases d with
 |nil=>simp at h
 |cons c t=>
  simp only [] at h ⊢;by_cases h1:8 < c.toNat
  ·rw [if_pos h1] at h;simp at h
  rw [if_neg h1] at h ⊢;by_cases h2:t.length < c.toNat
  ·rw [if_pos h2] at h;simp at h
  rw [if_neg h2] at h ⊢;by_cases h3:(t.take c.toNat).head? =some 0
  ·rw [if_pos h3] at h;simp at h
  rw [if_neg h3];have hl:(t.take c.toNat).length=c.toNat:=by rw [aR];omega
  have hd:(gB (gr (t.take c.toNat))).map UInt8.ofNat=t.take c.toNat:=DA 8 _ (by omega) h3;have vw:(gB (gr (t.take c.toNat))).length=c.toNat:=by
   have:=congrArg List.length hd;rw [bJ,hl] at this;exact this
  have hn:numU (gr (t.take c.toNat))=c :: t.take c.toNat:=by
   unfold numU;rw [hd,vw];congr 1;simp
  simp only [];rw [hn];refine ⟨?_,by simp;omega,by simp;omega⟩;rw [show 0+1+c.toNat=c.toNat+1 by omega,dA]
end Pt.Cd
namespace Pt.Cd
theorem Fx:∀f u,u < 256 ^ f->(fK f u).head?≠some 0:=by
 intro f;induction f with
 |zero=>intro u _;simp [fK]
 |succ f ih=>
  intro u h;unfold fK;split
  ·simp
  ·rename_i h0
   by_cases h1:u / 256=0
   ·have:fK f (u / 256)=[]:=by rw [h1];cases f <;> simp [fK]
    rw [this];simp;omega
   ·have h2:=ih (u / 256) (by rw [Nat.pow_succ] at h;omega)
    have hne:fK f (u / 256)≠[]:=by
     cases f with
     |zero=>simp at h;omega
     |succ f=>unfold fK;rw [if_neg h1];simp
    cases hd:fK f (u / 256) with
    |nil=>exact absurd hd hne
    |cons a l=>rw [hd] at h2;simpa using h2
theorem uK {k:Nat} (h:k < 256):(UInt8.ofNat k).toNat=k:=by rw [UInt8.toNat_ofNat'];omega
theorem DT (u:Nat):(numU u).length=(gB u).length+1:=by simp [numU]
variable {d rest:List UInt8}
theorem num_app {a u:Nat} (hu:u < 18446744073709551616) (h:d.drop a=numU u++rest):numR d a=(a+(numU u).length,0,u):=by
 have h8:=jI u;have hk:=uK (k:=(gB u).length) (by omega);unfold numR;rw [h];unfold numU;simp only [bC,hk];rw [if_neg (by omega),if_neg (by simp)];have ht:((gB u).map UInt8.ofNat++rest).take (gB u).length=(gB u).map UInt8.ofNat:=by
  rw [List.take_append_of_le_length (by simp),af (by simp)]
 rw [ht];have hh:((gB u).map UInt8.ofNat).head?≠some 0:=by
  have h1:=Fx 8 u (lt8 hu);cases hd:gB u with
  |nil=>simp
  |cons x l=>
   unfold gB at hd;rw [hd] at h1;simp at h1 ⊢;intro e;have hx:=D6 8 u x (by rw [hd];simp);have:=congrArg UInt8.toNat e;rw [uK hx] at this;exact h1 this
 rw [if_neg hh,Ff hu];simp;omega
theorem text_app {a:Nat} {t:List UInt8} (hl:t.length<=9223372036854775807) (h:d.drop a=textL t++rest):textS d a 0=(a+(textL t).length,0,t):=by
 have hu:u64 (t.length:Int)=t.length:=by unfold u64;omega
 unfold textL numL at h ⊢;rw [hu] at h ⊢;rw [bx] at h;have hn:=num_app (by omega) h;have hlen:=congrArg List.length h;simp only [ah,aP] at hlen;unfold textS;rw [if_pos rfl,hn];simp only [if_true];rw [if_neg (by omega)];rw [<-List.drop_drop,h,List.drop_left,List.take_left];simp [bk]
theorem numL_len (n:Int):1<=(numL n).length/\(numL n).length<=9:=by
 unfold numL;rw [DT];have:=jI (u64 n);omega
end Pt.Cd
namespace Pt
def s0 (a:Nat):Nat:=tr a 1 ^^^ tr a 8 ^^^ a / 128
def s1 (b:Nat):Nat:=tr b 19 ^^^ tr b 61 ^^^ b / 64
def fW (a b:Nat):Nat:=(a+b) % 18446744073709551616
def me (l:List UInt8) (ws:List Nat):Nat:=
 if ws.length < 16 then qG ((l.drop (8*ws.length)).take 8)
 else fW (fW (fW (ws.getD (ws.length - 16) 0) (ws.getD (ws.length - 7) 0)) (s0 (ws.getD (ws.length - 15) 0))) (s1 (ws.getD (ws.length - 2) 0))
def NT (l:List UInt8) (ws:List Nat):List Nat:=ws++[me l ws]
def eD (l:List UInt8):Nat->List Nat
 |0=>[]
 |n+1=>NT l (eD l n)
theorem iu (l:List UInt8):∀n,(eD l n).length=n
 |0=>rfl
 |n+1=>by simp [eD,NT,iu l n]
def qN (x:Nat):Prop:=x < 18446744073709551616
theorem iG (a b:Nat):qN (fW a b):=Nat.mod_lt _ (by decide)
theorem jc {x n:Nat} (h:qN x):qN (tr x n):=by
 unfold tr qN at*;have e:18446744073709551616=2 ^ 64:=rfl;rw [e];exact Nat.or_lt_two_pow (Nat.lt_of_le_of_lt (Nat.div_le_self _ _) h) (Nat.mod_lt _ (by decide))
theorem mg {a b:Nat} (ha:qN a) (hb:qN b):qN (a ^^^ b):=Nat.xor_lt_two_pow (n:=64) ha hb
theorem lF {a b:Nat} (ha:qN a):qN (a &&& b):=Nat.lt_of_le_of_lt Nat.and_le_left ha
theorem DU {a n:Nat} (ha:qN a):qN (a / n):=Nat.lt_of_le_of_lt (Nat.div_le_self _ _) ha
theorem S5 (l:List UInt8) (h:l.length<=8):qN (qG l):=by
 have key:∀k,k<=l.length->qG (l.take k) < 256 ^ k:=by
  intro k;induction k with
  |zero=>intro _;simp [qG]
  |succ k ih=>intro hk;rw [zw l k (by omega)];exact wM _ _ _ (ih (by omega))
 have:=key l.length (aB _);rw [cD] at this;exact aN this (show 256 ^ l.length<=256 ^ 8 from Nat.pow_le_pow_right (by decide) h)
theorem NU (l:List UInt8) (ws:List Nat):qN (me l ws):=by
 unfold me;split
 ·exact S5 _ (by simp;omega)
 ·exact iG _ _
structure V8 where
 (a b c d e f g h:Nat)
def V8.list (v:V8):List Nat:=[v.a,v.b,v.c,v.d,v.e,v.f,v.g,v.h]
def V8.ok (v:V8):Prop:=qN v.a/\qN v.b/\qN v.c/\qN v.d/\qN v.e/\qN v.f/\qN v.g/\qN v.h
def NV (x:Nat):Nat:=18446744073709551615 ^^^ x
def xx (v:V8) (k w:Nat):Nat:=
 fW (fW (fW (fW v.h (tr v.e 14 ^^^ tr v.e 18 ^^^ tr v.e 41)) ((v.e &&& v.f) ^^^ (NV v.e &&& v.g))) k) w
def yy (v:V8):Nat:=fW (tr v.a 28 ^^^ tr v.a 34 ^^^ tr v.a 39) ((v.a &&& v.b) ^^^ (v.a &&& v.c) ^^^ (v.b &&& v.c))
def rnd (v:V8) (k w:Nat):V8:=⟨fW (xx v k w) (yy v),v.a,v.b,v.c,fW v.d (xx v k w),v.e,v.f,v.g⟩
def S6 (x y:V8):V8:=⟨fW x.a y.a,fW x.b y.b,fW x.c y.c,fW x.d y.d,fW x.e y.e,fW x.f y.f,fW x.g y.g,fW x.h y.h⟩
theorem WE {v:V8} (k w:Nat) (h:v.ok):(rnd v k w).ok:=⟨iG _ _,h.1,h.2.1,h.2.2.1,iG _ _,h.2.2.2.2.1,h.2.2.2.2.2.1,h.2.2.2.2.2.2.1⟩
theorem S7 (x y:V8):(S6 x y).ok:=⟨iG _ _,iG _ _,iG _ _,iG _ _,iG _ _,iG _ _,iG _ _,iG _ _⟩
def qO:List Nat:=[
 4794697086780616226,8158064640168781261,13096744586834688815,16840607885511220156,
 4131703408338449720,6480981068601479193,10538285296894168987,12329834152419229976,
 15566598209576043074,1334009975649890238,2608012711638119052,6128411473006802146,
 8268148722764581231,9286055187155687089,11230858885718282805,13951009754708518548,
 16472876342353939154,17275323862435702243,1135362057144423861,2597628984639134821,
 3308224258029322869,5365058923640841347,6679025012923562964,8573033837759648693,
 10970295158949994411,12119686244451234320,12683024718118986047,13788192230050041572,
 14330467153632333762,15395433587784984357,489312712824947311,1452737877330783856,
 2861767655752347644,3322285676063803686,5560940570517711597,5996557281743188959,
 7280758554555802590,8532644243296465576,9350256976987008742,10552545826968843579,
 11727347734174303076,12113106623233404929,14000437183269869457,14369950271660146224,
 15101387698204529176,15463397548674623760,17586052441742319658,1182934255886127544,
 1847814050463011016,2177327727835720531,2830643537854262169,3796741975233480872,
 4115178125766777443,5681478168544905931,6601373596472566643,7507060721942968483,
 8399075790359081724,8693463985226723168,9568029438360202098,10144078919501101548,
 10430055236837252648,11840083180663258601,13761210420658862357,14299343276471374635,
 14566680578165727644,15097957966210449927,16922976911328602910,17689382322260857208,
 500013540394364858,748580250866718886,1242879168328830382,1977374033974150939,
 2944078676154940804,3659926193048069267,4368137639120453308,4836135668995329356,
 5532061633213252278,6448918945643986474,6902733635092675308,7801388544844847127]
def rounds (ws:List Nat) (v:V8):Nat->V8
 |0=>v
 |n+1=>rnd (rounds ws v n) (qO.getD n 0) (ws.getD n 0)
theorem AD (ws:List Nat) {v:V8} (h:v.ok):∀n,(rounds ws v n).ok
 |0=>h
 |n+1=>WE _ _ (AD ws h n)
def Fy (v:V8) (l:List UInt8):V8:=S6 v (rounds (eD l 80) v 80)
def iX (v:V8) (s:List UInt8):Nat->V8
 |0=>v
 |n+1=>Fy (iX v s n) ((s.drop (128*n)).take 128)
def start:V8:=⟨7640891576956012808,13503953896175478587,4354685564936845355,11912009170470909681,5840696475078001361,11170449401992604703,2270897969802886507,6620516959819538809⟩
theorem NW:start.ok:=by unfold V8.ok qN start;decide
end Pt
namespace Pt
def iO (n:Nat):Nat:=(239 - n % 128) % 128
def kJ (l:List UInt8):List UInt8:=l++128 :: List.replicate (iO l.length) 0++wQ 0++wQ (8*l.length)
def BY (v:V8):List UInt8:=v.list.flatMap wQ
def sumL (l:List UInt8):List UInt8:=BY (iX start (kJ l) ((kJ l).length / 128))
theorem NX (l:List UInt8):(kJ l).length % 128=0/\128<=(kJ l).length:=by
 unfold kJ iO;simp [wQ];omega
theorem xA (l:List UInt8):(sumL l).length=64:=by simp [sumL,BY,V8.list,wQ]
end Pt
namespace Pt
open Go.RowKit
def keyL (s:List UInt8):List UInt8:=(sumL s).take 32
theorem keyL_len (s:List UInt8):(keyL s).length=32:=by unfold keyL;rw [aR,xA];rfl
theorem AE (d:List UInt8) (k:Nat):(piece d k).length<=256:=by unfold piece;rw [aR];omega
theorem og (d:List UInt8):(cutL d).length=pieces d.length:=by simp [cutL]
variable {m d:List UInt8}
theorem S8 {k:Nat} (h:k < (cutL d).length):(cutL d)[k]=piece d k:=by simp [cutL]
def manL (d:List UInt8):List UInt8:=Cd.numL d.length++(cutL d).flatMap keyL
def oG (r:List UInt8) (k:Nat):List UInt8:=(r.drop (32*k)).take 32
def kO (r:List UInt8) (k:Nat):List (List UInt8):=(List.range k).map (oG r)
def keysL (m:List UInt8):List (List UInt8)×Int×Int:=
 if m=[] then ([],0,0)
 else if (Cd.rnumR m).2.1=0/\1<=Cd.toI (Cd.rnumR m).2.2/\Cd.toI (Cd.rnumR m).2.2<=4096/\(Cd.rnumR m).1.length=32*pieces (Cd.rnumR m).2.2 then (kO (Cd.rnumR m).1 (pieces (Cd.rnumR m).2.2),Cd.toI (Cd.rnumR m).2.2,0)
 else ([],0,11)
theorem KG:keysL []=([],0,0):=rfl
theorem xB (h:m≠[]) (h1:(Cd.rnumR m).2.1=0) (h2:1<=Cd.toI (Cd.rnumR m).2.2) (h3:Cd.toI (Cd.rnumR m).2.2<=4096) (h4:(Cd.rnumR m).1.length=32*pieces (Cd.rnumR m).2.2):
  keysL m=(kO (Cd.rnumR m).1 (pieces (Cd.rnumR m).2.2),Cd.toI (Cd.rnumR m).2.2,0):=by unfold keysL;rw [if_neg h,if_pos ⟨h1,h2,h3,h4⟩]
theorem oh (h:m≠[]) (h1:¬ ((Cd.rnumR m).2.1=0/\1<=Cd.toI (Cd.rnumR m).2.2/\Cd.toI (Cd.rnumR m).2.2<=4096/\(Cd.rnumR m).1.length=32*pieces (Cd.rnumR m).2.2)):keysL m=([],0,11):=by unfold keysL;rw [if_neg h,if_neg h1]
theorem AF {u:Nat} (hu:u < 18446744073709551616) (h1:1<=Cd.toI u) (h2:Cd.toI u<=4096):Cd.toI u=u:=by unfold Cd.toI at*;omega
theorem DV (m:List UInt8):(Cd.rnumR m).2.2 < 18446744073709551616:=Cd.rnumR_lt m
theorem DW (d:List UInt8):nM (cutL d):=λx hx=>by
 obtain ⟨k,_,rfl⟩:=aU.1 hx;have:=AE d k;omega
theorem AG (r:List UInt8) (k:Nat):(kO r k).length=k:=by simp [kO]
theorem Fz (r:List UInt8) (k:Nat):kO r (k+1)=kO r k++[oG r k]:=by simp [kO,List.range_succ]
theorem zH (r:List UInt8) (k:Nat):(bs r).extract (32*k) (32*k+32)=bs (oG r k):=by
 rw [fM];unfold oG;congr 2;omega
theorem BZ (r:List UInt8) (a:Nat):(bs r).extract a r.length=bs (r.drop a):=by
 rw [fM];congr 1;rw [af (by rw [ah];omega)]
end Pt
namespace Pt
open Go.RowKit
attribute [local go_sem] dR dO dS dP
theorem AH {u:Nat} (h:u<=5000):Cd.u64 (u:Int)=u:=by unfold Cd.u64;omega
def jO (w:World) (m:List UInt8) (e:Ending) (w':World):Prop:=∃v,e=.returned (.tuple #[v,.int .i64 (keysL m).2.1,.int .i64 (keysL m).2.2])/\fm w' w v (keysL m).1/\Below w w w'
theorem jO.no {w w':World} {m:List UInt8} (h:keysL m=([],0,11)) (hb:Below w w w'):jO w m (.returned (.tuple #[(),qn,(11:Int)])) w':=by
 unfold jO;rw [h];exact ⟨_,rfl,dQ.nil_ _ _ _,hb⟩
theorem jO.nil_ {w w':World} (hb:Below w w w'):jO w [] (.returned (.tuple #[(),qn,qn])) w':=by
 unfold jO;rw [KG];exact ⟨_,rfl,dQ.nil_ _ _ _,hb⟩
theorem jO.yes {w w':World} {m r:List UInt8} {u P:Nat} (h:keysL m=(kO r P,(u:Int),0)) {v:Value} (ho:fm w' w v (kO r P)) (hb:Below w w w'):jO w m (.returned (.tuple #[v,u,qn])) w':=by
 unfold jO;rw [h];exact ⟨_,rfl,ho,hb⟩
theorem rY (m:List UInt8) (hm:m.length<=1000000) (w:World):Calls prog 139 #[m] w (jO w m):=by
 obtain ⟨i0,gV,hz0,hz1,hz2⟩:=info_parts DL;by_cases h0:m=[]
 ·subst h0
  go_enter func139,ntmps139;go_wp2_with fail;go_ret3;exact jO.nil_ (aC _ _)
 have hem:m.isEmpty=false:=by cases m <;> simp_all
 have hr:=Cd.rnum_num m 0;rw [bz] at hr;have hlt:=Cd.numR_lt m 0;have Tf:=Cd.num_is m;have hle0:=Cd.numR_le m 0 (aS _);have Er:=λ(w1:World) (hR:Cd.Rd w1 w m 0 0)=>Cd.Num_any w m 0 0 w1 hR (aS _) (by omega)
 have hS:Cd.numS m 0 0=Cd.numR m 0:=by unfold Cd.numS;rw [if_pos rfl]
 rw [hS] at Er;have HRd:=dL (Cd.Read_any m w);generalize oB:Cd.rnumR m=R at*;generalize hN:Cd.numR m 0=N at*;obtain ⟨a,e1,u⟩:=N;obtain ⟨r,e2,u2⟩:=R;dsimp only at hr hlt Tf hle0 Er;obtain ⟨rfl,rfl,Vm⟩:=hr;have CT:=dL Er;have CV:=dL oB;have HI:=dL gV;have gx:=dL hz0;have gJ:=dL hz1;have gT:=dL hz2;have H0:=dL h0;have HIs:=dL Tf;have VL:=dL Vm;clear oB hN hS h0 Tf Vm gV hz0 hz1 hz2 Er;by_cases he:e2=0
 ·subst he
  by_cases h1:Cd.toI u2 < 1
  ·have HK:dK (keysL m=([],0,11)):=dL (oh H0.o (by rw [CV.o];exact λh=>absurd h.2.1 (by show ¬ 1<=Cd.toI u2;omega)))
   generalize Cd.toI u2=t at*;have hd:decide (t < 1)=true:=decide_eq_true h1;clear h1;go_enter func139,ntmps139;go_wp2_with fail;refine HRd.o.mono ?_;rintro e w1 ⟨rfl,hR,hb⟩;have QK:=dL (CT.o w1 hR);have HB:=dL hb;have qY:=hR.lt;clear hb hR;go_wp2_with fail;refine QK.o.mono ?_;rintro e w2 ⟨rfl,um,hg2⟩;have HE:=dL (Cd.Err_any _ _ _ _ _ um);have eA:=dL (eY HB.o hg2 (aB _) HB.o.size);clear um hg2;go_wp2_with fail;refine HE.o.mono ?_;rintro e w3 ⟨rfl,rfl⟩;go_wp2_with fail;go_ret3;exact jO.no HK.o eA.o
  by_cases h2:4096 < Cd.toI u2
  ·have HK:dK (keysL m=([],0,11)):=dL (oh H0.o (by rw [CV.o];exact λh=>absurd h.2.2.1 (by show ¬ Cd.toI u2<=4096;omega)))
   generalize Cd.toI u2=t at*;have hd:decide (t < 1)=false:=decide_eq_false h1;have hd2:decide (t > 4096)=true:=decide_eq_true h2;clear h1 h2;go_enter func139,ntmps139;go_wp2_with fail;refine HRd.o.mono ?_;rintro e w1 ⟨rfl,hR,hb⟩;have QK:=dL (CT.o w1 hR);have HB:=dL hb;have qY:=hR.lt;clear hb hR;go_wp2_with fail;refine QK.o.mono ?_;rintro e w2 ⟨rfl,um,hg2⟩;have HE:=dL (Cd.Err_any _ _ _ _ _ um);have eA:=dL (eY HB.o hg2 (aB _) HB.o.size);clear um hg2;go_wp2_with fail;refine HE.o.mono ?_;rintro e w3 ⟨rfl,rfl⟩;go_wp2_with fail;go_ret3;exact jO.no HK.o eA.o
  have hu:=AF hlt (by omega) (by omega);rw [hu] at CT h1 h2;have HU:=dL hu;obtain ⟨hi1,hi2,Qk⟩:=HIs.o rfl;have XP:r=m.drop a:=VL.o rfl;have hnl:Cd.numL (u2:Int)=Cd.numU u2:=by unfold Cd.numL;rw [AH (by omega)]
  have hnm:=Cd.num_c (u2:Int);rw [hnl] at hnm;generalize Cd.numU u2=nu at*;have ZC:=dL (λw=>hnm w (by omega));clear hnm;subst hi2;have hx:=BZ m nu.length;rw [<-XP] at hx;have HX:=dL hx;have hd:decide ((u2:Int) < 1)=false:=decide_eq_false h1;have hd2:decide ((u2:Int) > 4096)=false:=decide_eq_false h2;have agr:nu.length<=m.length:=Qk;have hp1:((u2:Int)+256 - 1) / 256=((pieces u2:Nat):Int):=by unfold pieces;omega
  have hp2:((u2:Int)+255) / 256=((pieces u2:Nat):Int):=by unfold pieces;omega
  have MW:(0:Int)<=u2:=by omega
  have hu3:(u2:Int)<=4096:=by omega
  have JX:pieces u2<=17:=by unfold pieces;omega
  have hko:=λ(h4:r.length=32*pieces u2)=>xB H0.o (by rw [CV.o]) (by rw [CV.o];show 1<=Cd.toI u2;rw [hu];omega) (by rw [CV.o];show Cd.toI u2<=4096;rw [hu];omega) (by rw [CV.o];exact h4)
  rw [CV.o] at hko;dsimp only at hko;rw [hu] at hko;have HKo:=dL hko;clear hko;have RG:dK (r.length≠32*pieces u2->keysL m=([],0,11)):=dL (λh=>oh H0.o (by rw [CV.o];exact λh'=>h h'.2.2.2));clear HIs hi1 Qk XP hnl hu h1 h2 hlt;go_enter func139,ntmps139;go_wp2_with fail;refine HRd.o.mono ?_;rintro e w1 ⟨rfl,hR,hb⟩;have QK:=dL (CT.o w1 hR);have HB:=dL hb;have qY:=hR.lt;clear hb hR;go_wp2_with fail;refine QK.o.mono ?_;rintro e w2 ⟨rfl,um,hg2⟩;have HE:=dL (Cd.Err_any _ _ _ _ _ um);have eA:=dL (eY HB.o hg2 (aB _) HB.o.size);clear um hg2;go_wp2_with fail;refine HE.o.mono ?_;rintro e w3 ⟨rfl,rfl⟩;go_wp2_with fail;refine (ZC.o w2).mono ?_;rintro e w3 ⟨rfl,dn⟩;have eC:=dJ eA dn;clear dn;go_upto_region 8 with (fail);generalize pieces u2=P at*;have ags:w.heap.size<=w3.heap.size:=eC.o.size;by_cases hl:r.length=32*P
  case neg=>
   have hq:(((r.length:Nat):Int) != ((P:Nat):Int)*32)=true:=by rw [bne_iff_ne];omega
   have HK:=dL (RG.o hl);clear hl;go_wp2_with fail;go_ret3;exact jO.no HK.o eC.o
  have hq:(((r.length:Nat):Int) != ((P:Nat):Int)*32)=false:=by rw [bne_eq_false_iff_eq];omega
  have HK:=dL (HKo.o hl);have ue:(r.length:Int)=32*(P:Int):=by omega
  have HL:=dL hl;clear hl ue hx RG HKo CT HRd ZC QK HE VL;go_upto_region 11 with (fail);clear hp1 hp2 hq;go_wp2_with fail;go_loopw [9,10] (λu i wr=>∃k:Nat,k<=P/\i=.int .i64 (32*k:Nat)/\fm wr w u (kO r k)/\Below w w wr) (λ_ i _=>r.length - (intOf i).toNat)
  case atStart=>exact ⟨0,by omega,rfl,dQ.nil_ _ _ _,eC.o⟩
  case round=>
   obtain ⟨k,hk,rfl,hO,hb⟩:=hrel;rcases aD k P with hlt|hge
   ·obtain ⟨A2,YX,rfl⟩:=dQ.isSlice hO
    have ue:=HL.o;have hki:32*(k:Int) < (r.length:Int):=by omega
    have hx:=zH r k;have qX:(0:Int)<=32*(k:Int):=by omega
    have hn2:(32*(k:Int)).toNat=32*k:=by omega
    have XL:32*(k:Int)+32<=(r.length:Int):=by omega
    have hn4:(32*(k:Int)+32).toNat=32*k+32:=by omega
    have hcl:(kO r k).length<=17:=by rw [AG];omega
    have vN:=dL (Fz r k);have HO:=dL (dQ.alloc hO (.cells #[(oG r k)] 9));have HB:=dL (hb.alloc hb.size (.cells #[(oG r k)] 9));have ZD:=hb.size;clear hO hb ue;go_wp2_with (at_builtin;refine dW _ rfl (.tmp 48) (.tmp 54) 99 99 rfl 9 i0 (.string ⟨#[]⟩) 1 underlying99 HI.o gx.o gJ.o rfl (by decide) w _ (kO r k).length (strs (kO r k)) rfl HO.o (.slice (some wr) 1 1) rfl 1 [.string (bs (oG r k))] ?c1 ?c3 ?c4 ?c5 ?_)
    case c1=>exact Src.one underlying99 (by simp [go_sem]) rfl
    case c3=>unfold maxLen;omega
    case c4=>rw [gT.o];omega
    case c5=>simp;omega
    intro v' w5 hown hgrow fR;have zU:=dL (fm.snoc hown);have qA:=dL (iD HB.o (aB _) (by simp;omega) HO.o hgrow);clear hown hgrow fR;go_wp2_with fail;exact ⟨⟨k+1,by omega,by go_num,by rw [vN.o];exact zU.o,qA.o⟩,by simp [intOf];omega⟩
   ·obtain rfl:k=P:=by omega
    have ue:=HL.o;have hki:¬ 32*(k:Int) < (r.length:Int):=by omega
    have HO:=dL hO;have HB:=dL hb;clear hO hb ue;go_wp2_with fail;go_ret3;exact jO.yes HK.o HO.o HB.o
 ·have hne:(e2 != 0)=true:=by simpa using he
  have HK:dK (keysL m=([],0,11)):=dL (oh H0.o (by rw [CV.o];exact λh=>he h.1));clear he;go_enter func139,ntmps139;go_wp2_with fail;refine HRd.o.mono ?_;rintro e w1 ⟨rfl,hR,hb⟩;have QK:=dL (CT.o w1 hR);have HB:=dL hb;have qY:=hR.lt;clear hb hR;go_wp2_with fail;refine QK.o.mono ?_;rintro e w2 ⟨rfl,um,hg2⟩;have HE:=dL (Cd.Err_any _ _ _ _ _ um);have eA:=dL (eY HB.o hg2 (aB _) HB.o.size);clear um hg2;go_wp2_with fail;refine HE.o.mono ?_;rintro e w3 ⟨rfl,rfl⟩;go_wp2_with fail;go_ret3;exact jO.no HK.o eA.o
end Pt
end Go.Proofs.YtgdaahffmcfhpaaGreatDoor
