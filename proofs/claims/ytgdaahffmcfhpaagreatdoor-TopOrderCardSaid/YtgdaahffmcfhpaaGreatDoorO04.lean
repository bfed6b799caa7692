/- Lemmas on the way: PCdPlain Shf PCdA PCdB. -/
import Derived.Lib.BitFns
import Derived.Laws.Strings
import Derived.Shelf.Strings.Trim
import Derived.Shelf.Small.Bits
import Derived.Shelf.Small.Wraps
import Derived.Shelf.Strconv.Itoa0
import Derived.Shelf.Strconv.Itoa1
import Derived.Shelf.LaysM
import Derived.Shelf.Strconv.Itoa2
import Derived.Shelf.Strconv.Itoa3
import Derived.Shelf.Strconv.Clone
import Derived.Shelf.Strings.Search1
import Derived.Shelf.Strings.Search2
import Derived.Shelf.Strings.Search3
import Derived.Shelf.Strings.Count
import Derived.Shelf.Strings.LastIndex
import Derived.Shelf.Strings.Prefix
import Derived.Shelf.Strings.Split
import Derived.Shelf.SlicesE.IndexFunc
import Derived.Outline
import Derived.Deep.QuietTactic
import Derived.Test.YtgdaahffmcfhpaaGreatDoorO03
set_option linter.unusedVariables false
set_option maxRecDepth 100000
set_option maxHeartbeats 8000000
namespace Go.Proofs.YtgdaahffmcfhpaaGreatDoor
open aA
open Tryz
namespace Pt.Cd
def fK:Nat->Nat->List Nat
 |0,_=>[]
 |f+1,u=>if u=0 then [] else fK f (u / 256)++[u % 256]
def gB (u:Nat):List Nat:=fK 8 u
theorem D6:∀f u,∀d∈fK f u,d < 256:=by
 intro f;induction f with
 |zero=>intro u d hd;exact absurd hd (by simp [fK])
 |succ f ih=>
  intro u d hd;unfold fK at hd;split at hd
  ·exact absurd hd (by simp)
  ·rcases aq.1 hd with h|h
   ·exact ih _ _ h
   ·simp at h;omega
theorem Js:∀f u,(fK f u).length<=f:=by
 intro f;induction f with
 |zero=>intro u;simp [fK]
 |succ f ih=>
  intro u;unfold fK;split
  ·simp
  ·have:=ih (u / 256);simp;omega
theorem Jt:∀f u j,j < (fK f u).length->(fK f u)[j]? =some (u / 256 ^ ((fK f u).length - 1 - j) % 256):=by
 intro f;induction f with
 |zero=>intro u j hj;exact absurd hj (by simp [fK])
 |succ f ih=>
  intro u j hj;unfold fK at hj ⊢;split
  ·rename_i h;rw [if_pos h] at hj;exact absurd hj (by simp)
  ·rename_i h
   rw [if_neg h] at hj;simp only [aP,aY,bE] at hj ⊢;by_cases hj2:j < (fK f (u / 256)).length
   ·rw [bY hj2,ih _ _ hj2]
    congr 2;rw [show (fK f (u / 256)).length+(0+1) - 1 - j=((fK f (u / 256)).length - 1 - j)+1 by omega,Nat.pow_succ,Nat.mul_comm,Nat.div_div_eq_div_mul]
   ·have e:j=(fK f (u / 256)).length:=by omega
    subst e;rw [bt (aB _)];simp
theorem Ju:∀f u,u < 256 ^ f->f<=8->(fK f u).length=(Lib.bitLen u+7) / 8:=by
 intro f;induction f with
 |zero=>intro u h _;simp at h;subst h;simp [fK];decide
 |succ f ih=>
  intro u h hf;have hp:256 ^ (f+1)<=256 ^ 8:=Nat.pow_le_pow_right (by omega) hf;have h64:u < 18446744073709551616:=by
   have:(256:Nat) ^ 8=18446744073709551616:=by decide
   omega
  unfold fK;split
  ·rename_i h0;subst h0;decide
  ·rename_i h0
   rw [aP,ih (u / 256) (by rw [Nat.pow_succ] at h;omega) (by omega)];by_cases h2:256<=u
   ·rw [Lib.bitLen_shift8 u h2 h64];simp;omega
   ·have e:u / 256=0:=by omega
    rw [e];have h1:Lib.bitLen u<=8:=Lib.bitLen_le8 ⟨u,by omega⟩;have h3:Lib.bitLen u=1+Lib.bitLen (u / 2):=Lib.bitLen_half u h0 (by omega);have h4:Lib.bitLen 0=0:=by decide
    rw [h4];simp;omega
variable {u:Nat}
theorem lt8 (h:u < 18446744073709551616):u < 256 ^ 8:=by
 have:(256:Nat) ^ 8=18446744073709551616:=by decide
 omega
theorem D7 (h:u < 18446744073709551616):(gB u).length=(Lib.bitLen u+7) / 8:=Ju 8 u (lt8 h) (aB _)
theorem jI (u:Nat):(gB u).length<=8:=Js 8 u
def u64 (n:Int):Nat:=(n % 18446744073709551616).toNat
theorem u64_lt (n:Int):u64 n < 18446744073709551616:=by unfold u64;omega
def numU (u:Nat):List UInt8:=UInt8.ofNat (gB u).length :: (gB u).map UInt8.ofNat
def numL (n:Int):List UInt8:=numU (u64 n)
def textL (s:List UInt8):List UInt8:=numL s.length++s
def gr (l:List UInt8):Nat:=l.foldl (λu c=>u*256+c.toNat) 0
theorem nK (l:List UInt8) (c:UInt8):gr (l++[c])=gr l*256+c.toNat:=by simp [gr]
theorem D8:∀(k:Nat) (l:List UInt8),l.length=k->gr l < 256 ^ k:=by
 intro k;induction k with
 |zero=>intro l h;have:l=[]:=List.length_eq_zero_iff.1 h;subst this;simp [gr]
 |succ k ih=>
  intro l h;have hne:l≠[]:=by rintro rfl;simp at h
  obtain ⟨m,c,rfl⟩:∃m c,l=m++[c]:=⟨l.dropLast,l.getLast hne,(List.dropLast_concat_getLast hne).symm⟩;rw [nK];have:=ih m (by simpa using h);have hc:c.toNat < 256:=c.toNat_lt;rw [Nat.pow_succ];omega
theorem D9:∀f u,u < 256 ^ f->gr ((fK f u).map UInt8.ofNat)=u:=by
 intro f;induction f with
 |zero=>intro u h;simp at h;subst h;simp [fK,gr]
 |succ f ih=>
  intro u h;unfold fK;split
  ·rename_i h0;subst h0;simp [gr]
  ·rw [bQ,bB,List.map_nil,nK,ih _ (by rw [Nat.pow_succ] at h;omega)]
   have:(UInt8.ofNat (u % 256)).toNat=u % 256:=by simp [UInt8.toNat_ofNat']
   rw [this];omega
theorem Ff (h:u < 18446744073709551616):gr ((gB u).map UInt8.ofNat)=u:=D9 8 u (lt8 h)
theorem DA:∀(f:Nat) (l:List UInt8),l.length<=f->(l.head?≠some 0)->(fK f (gr l)).map UInt8.ofNat=l:=by
 intro f;induction f with
 |zero=>intro l h _;have:l=[]:=List.length_eq_zero_iff.1 (by omega);subst this;simp [fK]
 |succ f ih=>
  intro l h h0;by_cases hne:l=[]
  ·subst hne;simp [fK,gr]
  obtain ⟨m,c,rfl⟩:∃m c,l=m++[c]:=⟨l.dropLast,l.getLast hne,(List.dropLast_concat_getLast hne).symm⟩;have hc:c.toNat < 256:=c.toNat_lt;have hm0:m.head?≠some 0:=by
   cases m with
   |nil=>simp
   |cons a m=>simpa using h0
  have h1:=ih m (by simp at h;omega) hm0;rw [nK];unfold fK;have hd:(gr m*256+c.toNat) / 256=gr m:=by omega
  have hr:(gr m*256+c.toNat) % 256=c.toNat:=by omega
  by_cases hz:gr m*256+c.toNat=0
  ·exfalso
   have hm:gr m=0:=by omega
   rw [hm] at h1;have:fK f 0=[]:=by cases f <;> simp [fK]
   rw [this] at h1;simp at h1;subst h1;have hc0:c=0:=by
    have:c.toNat=0:=by omega
    exact UInt8.toNat_inj.1 (by simpa using this)
   subst hc0;simp at h0
  ·rw [if_neg hz,hd,hr,bQ,h1]
   simp
def numR (d:List UInt8) (a:Nat):Nat×Int×Nat:=
 match d.drop a with
 | []=>(a,10,0)
 |h :: t=>
  if 8 < h.toNat then (a+1,11,0)
  else if t.length < h.toNat then (a+1,10,0)
  else if (t.take h.toNat).head? =some 0 then (a+1+h.toNat,11,0)
  else (a+1+h.toNat,0,gr (t.take h.toNat))
theorem numR_le (d:List UInt8) (a:Nat) (ha:a<=d.length):(numR d a).1<=d.length:=by
 unfold numR;split
 ·exact ha
 ·rename_i h t hd
  have hlen:d.length - a=t.length+1:=by rw [<-ah,hd];rfl
  split
  ·simp only [];omega
  ·split
   ·simp only [];omega
   ·split <;> (simp only [];omega)
theorem numR_lt (d:List UInt8) (a:Nat):(numR d a).2.2 < 18446744073709551616:=by
 unfold numR;split
 ·show 0 < _;omega
 ·rename_i h t hd
  split
  ·show 0 < _;omega
  ·split
   ·show 0 < _;omega
   ·split
    ·show 0 < _;omega
    ·rename_i h1 h2 h3
     have h4:=D8 _ (t.take h.toNat) rfl;have h5:(256:Nat) ^ (t.take h.toNat).length<=256 ^ 8:=Nat.pow_le_pow_right (by omega) (by rw [aR];omega);have h6:(256:Nat) ^ 8=18446744073709551616:=by decide
     simp only [];omega
def numS (d:List UInt8) (a:Nat) (e:Int):Nat×Int×Nat:=if e=0 then numR d a else (a,e,0)
def textS (d:List UInt8) (a:Nat) (e:Int):Nat×Int×List UInt8:=
 if e=0 then
  if (numR d a).2.1=0 then
   if d.length - (numR d a).1 < (numR d a).2.2 then ((numR d a).1,10,[])
   else ((numR d a).1+(numR d a).2.2,0,(d.drop (numR d a).1).take (numR d a).2.2)
  else ((numR d a).1,(numR d a).2.1,[])
 else (a,e,[])
def endS (d:List UInt8) (a:Nat) (e:Int):Int:=if e=0 then if a < d.length then 12 else 0 else e
def toI (u:Nat):Int:=((u:Int)+9223372036854775808) % 18446744073709551616 - 9223372036854775808
theorem toI_u64 {n:Int} (h:-9223372036854775808<=n/\n<=9223372036854775807):toI (u64 n)=n:=by unfold u64 toI;omega
def rnumR (s:List UInt8):List UInt8×Int×Nat:=
 match s with
 | []=>([],10,0)
 |h :: t=>
  if 8 < h.toNat then (h :: t,11,0)
  else if t.length < h.toNat then (h :: t,10,0)
  else if (t.take h.toNat).head? =some 0 then (h :: t,11,0)
  else (t.drop h.toNat,0,gr (t.take h.toNat))
theorem rnum_num (d:List UInt8) (a:Nat):(rnumR (d.drop a)).2.1=(numR d a).2.1/\(rnumR (d.drop a)).2.2=(numR d a).2.2/\((numR d a).2.1=0->(rnumR (d.drop a)).1=d.drop (numR d a).1):=by
 unfold numR;cases hd:d.drop a with
 |nil=>simp [rnumR]
 |cons h t=>
  simp only [rnumR];split
  ·simp
  ·split
   ·simp
   ·split
    ·simp
    ·refine ⟨rfl,rfl,λ_=>?_⟩
     rw [<-List.drop_drop,<-List.drop_drop,hd];simp
end Pt.Cd
end Go.Proofs.YtgdaahffmcfhpaaGreatDoor
namespace Go.Proofs
open YtgdaahffmcfhpaaGreatDoor.aA
open Tryz
open Go.Shelf
def Tryz.lays160_ren:Go.Shelf.Ren:=⟨fun|160=>86|232=>142|231=>141|227=>143|234=>145|233=>144|236=>147|235=>146|228=>217|271=>220|151=>219|197=>218|120=>288|152=>287|260=>286|137=>343|119=>344|224=>299|225=>298|217=>297|266=>348|n=>n,fun|9=>9|4=>4|3=>3|5=>5|117=>232|116=>231|0=>0|124=>235|21=>21|105=>318|46=>161|119=>423|139=>426|138=>425|n=>n,fun|3=>1|4=>2|n=>n⟩
theorem Tryz.lays160:Go.Proofs.Lays.n160 prog lays160_ren:={
 mixed:=by kernel_rfl
 f119:=func344.trans (congrArg some (by kernel_rfl))
 f120:=func288.trans (congrArg some (by kernel_rfl))
 f137:=func343.trans (congrArg some (by kernel_rfl))
 f151:=func219.trans (congrArg some (by kernel_rfl))
 f152:=func287.trans (congrArg some (by kernel_rfl))
 f160:=func86.trans (congrArg some (by kernel_rfl))
 f197:=func218.trans (congrArg some (by kernel_rfl))
 f217:=func297.trans (congrArg some (by kernel_rfl))
 f224:=func299.trans (congrArg some (by kernel_rfl))
 f225:=func298.trans (congrArg some (by kernel_rfl))
 f227:=func143.trans (congrArg some (by kernel_rfl))
 f228:=func217.trans (congrArg some (by kernel_rfl))
 f231:=func141.trans (congrArg some (by kernel_rfl))
 f232:=func142.trans (congrArg some (by kernel_rfl))
 f233:=func144.trans (congrArg some (by kernel_rfl))
 f234:=func145.trans (congrArg some (by kernel_rfl))
 f235:=func146.trans (congrArg some (by kernel_rfl))
 f236:=func147.trans (congrArg some (by kernel_rfl))
 f260:=func286.trans (congrArg some (by kernel_rfl))
 f266:=func348.trans (congrArg some (by kernel_rfl))
 f271:=func220.trans (congrArg some (by kernel_rfl))
 t0:=underlying0
 a0:=isAgg0
 z0:=sizeOf0
 v0:=zeroValue0
 t3:=underlying3
 a3:=isAgg3
 z3:=sizeOf3
 v3:=zeroValue3
 t4:=underlying4
 a4:=isAgg4
 z4:=sizeOf4
 v4:=zeroValue4
 t5:=underlying5
 a5:=isAgg5
 z5:=sizeOf5
 v5:=zeroValue5
 t9:=underlying9
 a9:=isAgg9
 z9:=sizeOf9
 v9:=zeroValue9
 t21:=underlying21
 a21:=isAgg21
 z21:=sizeOf21
 v21:=zeroValue21
 t46:=underlying161
 a46:=isAgg161
 z46:=sizeOf161
 v46:=zeroValue161
 t105:=underlying318
 a105:=isAgg318
 z105:=sizeOf318
 v105:=zeroValue318
 t116:=underlying231
 a116:=isAgg231
 z116:=sizeOf231
 t117:=underlying232
 a117:=isAgg232
 z117:=sizeOf232
 v117:=zeroValue232
 t119:=underlying423
 a119:=isAgg423
 z119:=sizeOf423
 t124:=underlying235
 a124:=isAgg235
 z124:=sizeOf235
 v124:=zeroValue235
 t138:=underlying425
 a138:=isAgg425
 z138:=sizeOf425
 v138:=zeroValue425
 t139:=underlying426
 a139:=isAgg426
 z139:=sizeOf426
 v139:=zeroValue426
 g3:=by kernel_rfl
 g4:=by kernel_rfl }
open Go.RowKit in
theorem Tryz.strings_Trim_one (s:ByteArray) (c:UInt8) (hc:c.toNat < 128) (w:World) (hs:s.size<=9223372036854775807):
  Calls prog 86 #[.string s,.string ⟨#[c]⟩] w λe w'=>e=.returned (.string ⟨(Lib.trimB s.data.toList c).toArray⟩)/\(w'=w\/w'=w.drew):=Any.strings_Trim_one lays160 s c hc w hs
def Tryz.lays125_ren:Go.Shelf.Ren:=⟨fun|125=>153|128=>230|129=>231|n=>n,fun|46=>161|3=>3|51=>330|53=>332|4=>4|5=>5|9=>9|n=>n,fun|n=>n⟩
theorem Tryz.lays125:Go.Proofs.Lays.n125 prog lays125_ren:={
 mixed:=by kernel_rfl
 f125:=func153.trans (congrArg some (by kernel_rfl))
 f128:=func230.trans (congrArg some (by kernel_rfl))
 f129:=func231.trans (congrArg some (by kernel_rfl))
 t3:=underlying3
 a3:=isAgg3
 z3:=sizeOf3
 v3:=zeroValue3
 t4:=underlying4
 a4:=isAgg4
 z4:=sizeOf4
 v4:=zeroValue4
 t5:=underlying5
 a5:=isAgg5
 z5:=sizeOf5
 v5:=zeroValue5
 t9:=underlying9
 a9:=isAgg9
 z9:=sizeOf9
 v9:=zeroValue9
 t46:=underlying161
 a46:=isAgg161
 z46:=sizeOf161
 v46:=zeroValue161
 t51:=underlying330
 a51:=isAgg330
 z51:=sizeOf330
 v51:=zeroValue330
 t53:=underlying332
 a53:=isAgg332
 z53:=sizeOf332
 v53:=zeroValue332 }
theorem Tryz.bits_Len (x:Int) (w:World) (h0:0<=x) (h1:x<=18446744073709551615):
  Calls prog 153 #[.int .u64 x] w λe w'=>e=.returned (.int .i64 (Lib.bitLen x.toNat))/\w'=w:=Any.bits_Len lays125 x w h0 h1
def Tryz.lays103_ren:Go.Shelf.Ren:=⟨fun|103=>56|210=>103|206=>160|n=>n,fun|9=>9|4=>4|24=>110|3=>3|n=>n,fun|n=>n⟩
theorem Tryz.lays103:Go.Proofs.Lays.n103 prog lays103_ren:={
 mixed:=by kernel_rfl
 f103:=func56.trans (congrArg some (by kernel_rfl))
 f206:=func160.trans (congrArg some (by kernel_rfl))
 f210:=func103.trans (congrArg some (by kernel_rfl))
 t3:=underlying3
 a3:=isAgg3
 z3:=sizeOf3
 v3:=zeroValue3
 t4:=underlying4
 a4:=isAgg4
 z4:=sizeOf4
 v4:=zeroValue4
 t9:=underlying9
 a9:=isAgg9
 z9:=sizeOf9
 v9:=zeroValue9
 t24:=underlying110
 a24:=isAgg110
 z24:=sizeOf110
 v24:=zeroValue110 }
open Go.RowKit in
theorem Tryz.strings_CutPrefix (s p:ByteArray) (w:World):
  Calls prog 56 #[.string s,.string p] w λe w'=>e=.returned (.tuple #[.string ⟨(Lib.trimPrefix s.data.toList p.data.toList).toArray⟩,(Lib.hasPrefix s.data.toList p.data.toList)])/\w'=w:=Any.strings_CutPrefix lays103 s p w
def Tryz.lays129_ren:Go.Shelf.Ren:=⟨fun|129=>231|n=>n,fun|53=>332|3=>3|4=>4|46=>161|5=>5|9=>9|n=>n,fun|n=>n⟩
theorem Tryz.lays129:Go.Proofs.Lays.n129 prog lays129_ren:={
 mixed:=by kernel_rfl
 f129:=func231.trans (congrArg some (by kernel_rfl))
 t3:=underlying3
 a3:=isAgg3
 z3:=sizeOf3
 v3:=zeroValue3
 t4:=underlying4
 a4:=isAgg4
 z4:=sizeOf4
 v4:=zeroValue4
 t5:=underlying5
 a5:=isAgg5
 z5:=sizeOf5
 v5:=zeroValue5
 t9:=underlying9
 a9:=isAgg9
 z9:=sizeOf9
 v9:=zeroValue9
 t46:=underlying161
 a46:=isAgg161
 z46:=sizeOf161
 v46:=zeroValue161
 t53:=underlying332
 a53:=isAgg332
 z53:=sizeOf332
 v53:=zeroValue332 }
theorem Tryz.bits_Len64 (x:Int) (w:World) (h0:0<=x) (h1:x<=18446744073709551615):
  Calls prog 231 #[.int .u64 x] w λe w'=>e=.returned (.int .i64 (Lib.bitLen x.toNat))/\w'=w:=Any.bits_Len64 lays129 x w h0 h1
def Tryz.lays171_ren:Go.Shelf.Ren:=⟨fun|171=>232|243=>294|246=>346|283=>385|284=>386|285=>387|286=>388|129=>231|317=>406|318=>407|319=>408|320=>409|337=>416|338=>417|n=>n,fun|3=>3|9=>9|2=>2|4=>4|171=>462|0=>0|53=>332|37=>259|5=>5|173=>464|212=>475|51=>330|20=>20|213=>476|46=>161|232=>497|233=>498|n=>n,fun|17=>3|18=>4|19=>5|n=>n⟩
theorem Tryz.lays171:Go.Proofs.Lays.n171 prog lays171_ren:={
 mixed:=by kernel_rfl
 f129:=func231.trans (congrArg some (by kernel_rfl))
 f171:=func232.trans (congrArg some (by kernel_rfl))
 f243:=func294.trans (congrArg some (by kernel_rfl))
 f246:=func346.trans (congrArg some (by kernel_rfl))
 f283:=func385.trans (congrArg some (by kernel_rfl))
 f284:=func386.trans (congrArg some (by kernel_rfl))
 f285:=func387.trans (congrArg some (by kernel_rfl))
 f286:=func388.trans (congrArg some (by kernel_rfl))
 f317:=func406.trans (congrArg some (by kernel_rfl))
 f318:=func407.trans (congrArg some (by kernel_rfl))
 f319:=func408.trans (congrArg some (by kernel_rfl))
 f320:=func409.trans (congrArg some (by kernel_rfl))
 f337:=func416.trans (congrArg some (by kernel_rfl))
 f338:=func417.trans (congrArg some (by kernel_rfl))
 t0:=underlying0
 a0:=isAgg0
 z0:=sizeOf0
 v0:=zeroValue0
 t2:=underlying2
 a2:=isAgg2
 z2:=sizeOf2
 v2:=zeroValue2
 t3:=underlying3
 a3:=isAgg3
 z3:=sizeOf3
 v3:=zeroValue3
 t4:=underlying4
 a4:=isAgg4
 z4:=sizeOf4
 v4:=zeroValue4
 t5:=underlying5
 a5:=isAgg5
 z5:=sizeOf5
 v5:=zeroValue5
 t9:=underlying9
 a9:=isAgg9
 z9:=sizeOf9
 v9:=zeroValue9
 t20:=underlying20
 a20:=isAgg20
 z20:=sizeOf20
 v20:=zeroValue20
 t37:=underlying259
 a37:=isAgg259
 z37:=sizeOf259
 v37:=zeroValue259
 t46:=underlying161
 a46:=isAgg161
 z46:=sizeOf161
 v46:=zeroValue161
 t51:=underlying330
 a51:=isAgg330
 z51:=sizeOf330
 v51:=zeroValue330
 t53:=underlying332
 a53:=isAgg332
 z53:=sizeOf332
 v53:=zeroValue332
 t171:=underlying462
 a171:=isAgg462
 z171:=sizeOf462
 v171:=zeroValue462
 t173:=underlying464
 a173:=isAgg464
 z173:=sizeOf464
 v173:=zeroValue464
 t212:=underlying475
 a212:=isAgg475
 z212:=sizeOf475
 v212:=zeroValue475
 t213:=underlying476
 a213:=isAgg476
 z213:=sizeOf476
 t232:=underlying497
 a232:=isAgg497
 z232:=sizeOf497
 v232:=zeroValue497
 t233:=underlying498
 a233:=isAgg498
 z233:=sizeOf498
 v233:=zeroValue498
 g17:=by kernel_rfl
 g18:=by kernel_rfl
 g19:=by kernel_rfl }
open Go.RowKit Go.Sort Go.Lib in
theorem Tryz.strconv_Itoa_small (i:Nat) (hi:i < 100) (w:World):
  Calls prog 232 #[i] w λe w'=>e=.returned (.string ⟨(Lib.decDigits i).toArray⟩)/\w'=w:=Any.strconv_Itoa_small lays171 i hi w
def Tryz.laysM316_ren:Go.Shelf.Ren:=⟨fun|316=>320|n=>n,fun|9=>9|3=>3|4=>4|37=>259|0=>0|127=>345|5=>5|n=>n,fun|n=>n⟩
theorem Tryz.laysM316:Go.Proofs.LaysM.n316 prog laysM316_ren:={
 mixed:=by kernel_rfl
 f316:=func320.trans (congrArg some (by kernel_rfl))
 t0:=underlying0
 a0:=isAgg0
 z0:=sizeOf0
 v0:=zeroValue0
 t3:=underlying3
 a3:=isAgg3
 z3:=sizeOf3
 v3:=zeroValue3
 t4:=underlying4
 a4:=isAgg4
 z4:=sizeOf4
 v4:=zeroValue4
 t9:=underlying9
 a9:=isAgg9
 z9:=sizeOf9
 v9:=zeroValue9
 t37:=underlying259
 a37:=isAgg259
 z37:=sizeOf259
 v37:=zeroValue259
 t127:=underlying345
 a127:=isAgg345
 z127:=sizeOf345
 v127:=zeroValue345
 t5:=underlying5
 a5:=isAgg5
 z5:=sizeOf5
 v5:=zeroValue5
 i0:=by kernel_rfl
 i3:=by kernel_rfl
 i4:=by kernel_rfl
 i5:=by kernel_rfl
 i9:=by kernel_rfl
 i37:=by kernel_rfl
 i127:=by kernel_rfl }
open Go.RowKit in
theorem Tryz.stringslite_Clone (s:ByteArray) (w:World) (hlim:s.size<=281474976710656):
  Calls prog 320 #[.string s] w λe w'=>e=.returned (.string s)/\Below w w w':=Any.stringslite_Clone laysM316 s w hlim
def Tryz.lays143_ren:Go.Shelf.Ren:=⟨fun|143=>159|219=>237|217=>297|225=>298|224=>299|267=>300|266=>348|314=>349|n=>n,fun|9=>9|3=>3|4=>4|5=>5|46=>161|146=>432|51=>330|n=>n,fun|1=>0|n=>n⟩
theorem Tryz.lays143:Go.Proofs.Lays.n143 prog lays143_ren:={
 mixed:=by kernel_rfl
 f143:=func159.trans (congrArg some (by kernel_rfl))
 f217:=func297.trans (congrArg some (by kernel_rfl))
 f219:=func237.trans (congrArg some (by kernel_rfl))
 f224:=func299.trans (congrArg some (by kernel_rfl))
 f225:=func298.trans (congrArg some (by kernel_rfl))
 f266:=func348.trans (congrArg some (by kernel_rfl))
 f267:=func300.trans (congrArg some (by kernel_rfl))
 f314:=func349.trans (congrArg some (by kernel_rfl))
 t3:=underlying3
 a3:=isAgg3
 z3:=sizeOf3
 v3:=zeroValue3
 t4:=underlying4
 a4:=isAgg4
 z4:=sizeOf4
 v4:=zeroValue4
 t5:=underlying5
 a5:=isAgg5
 z5:=sizeOf5
 v5:=zeroValue5
 t9:=underlying9
 a9:=isAgg9
 z9:=sizeOf9
 v9:=zeroValue9
 t46:=underlying161
 a46:=isAgg161
 z46:=sizeOf161
 v46:=zeroValue161
 t51:=underlying330
 a51:=isAgg330
 z51:=sizeOf330
 v51:=zeroValue330
 t146:=underlying432
 a146:=isAgg432
 z146:=sizeOf432
 v146:=zeroValue432
 g1:=by kernel_rfl }
open Go.RowKit Go.Lib in
theorem Tryz.strings_Index_one (s:ByteArray) (c:UInt8) (w:World):
  Calls prog 159 #[.string s,.string ⟨#[c]⟩] w λe w'=>e=.returned (.int .i64 (Lib.indexByte s.data.toList c))/\w'=w:=Any.strings_Index_one lays143 s c w
def Tryz.lays138_ren:Go.Shelf.Ren:=⟨fun|138=>158|195=>235|218=>236|143=>159|219=>237|217=>297|225=>298|224=>299|267=>300|266=>348|314=>349|n=>n,fun|9=>9|3=>3|4=>4|5=>5|0=>0|46=>161|146=>432|51=>330|n=>n,fun|1=>0|n=>n⟩
theorem Tryz.lays138:Go.Proofs.Lays.n138 prog lays138_ren:={
 mixed:=by kernel_rfl
 f138:=func158.trans (congrArg some (by kernel_rfl))
 f143:=func159.trans (congrArg some (by kernel_rfl))
 f195:=func235.trans (congrArg some (by kernel_rfl))
 f217:=func297.trans (congrArg some (by kernel_rfl))
 f218:=func236.trans (congrArg some (by kernel_rfl))
 f219:=func237.trans (congrArg some (by kernel_rfl))
 f224:=func299.trans (congrArg some (by kernel_rfl))
 f225:=func298.trans (congrArg some (by kernel_rfl))
 f266:=func348.trans (congrArg some (by kernel_rfl))
 f267:=func300.trans (congrArg some (by kernel_rfl))
 f314:=func349.trans (congrArg some (by kernel_rfl))
 t0:=underlying0
 a0:=isAgg0
 z0:=sizeOf0
 v0:=zeroValue0
 t3:=underlying3
 a3:=isAgg3
 z3:=sizeOf3
 v3:=zeroValue3
 t4:=underlying4
 a4:=isAgg4
 z4:=sizeOf4
 v4:=zeroValue4
 t5:=underlying5
 a5:=isAgg5
 z5:=sizeOf5
 v5:=zeroValue5
 t9:=underlying9
 a9:=isAgg9
 z9:=sizeOf9
 v9:=zeroValue9
 t46:=underlying161
 a46:=isAgg161
 z46:=sizeOf161
 v46:=zeroValue161
 t51:=underlying330
 a51:=isAgg330
 z51:=sizeOf330
 v51:=zeroValue330
 t146:=underlying432
 a146:=isAgg432
 z146:=sizeOf432
 v146:=zeroValue432
 g1:=by kernel_rfl }
open Go.RowKit Go.Lib in
theorem Tryz.strings_Count_one (s:ByteArray) (c:UInt8) (w:World):
  Calls prog 158 #[.string s,.string ⟨#[c]⟩] w λe w'=>e=.returned (.int .i64 (Lib.countByte s.data.toList c))/\w'=w:=Any.strings_Count_one lays138 s c w
def Tryz.lays149_ren:Go.Shelf.Ren:=⟨fun|149=>170|222=>245|n=>n,fun|9=>9|5=>5|3=>3|4=>4|n=>n,fun|n=>n⟩
theorem Tryz.lays149:Go.Proofs.Lays.n149 prog lays149_ren:={
 mixed:=by kernel_rfl
 f149:=func170.trans (congrArg some (by kernel_rfl))
 f222:=func245.trans (congrArg some (by kernel_rfl))
 t3:=underlying3
 a3:=isAgg3
 z3:=sizeOf3
 v3:=zeroValue3
 t4:=underlying4
 a4:=isAgg4
 z4:=sizeOf4
 v4:=zeroValue4
 t5:=underlying5
 a5:=isAgg5
 z5:=sizeOf5
 v5:=zeroValue5
 t9:=underlying9
 a9:=isAgg9
 z9:=sizeOf9
 v9:=zeroValue9 }
open Go.RowKit Go.Lib in
theorem Tryz.strings_LastIndexByte (s:ByteArray) (c:Int) (hs:s.size < 4611686018427387904) (w:World):
  Calls prog 170 #[.string s,.int .u8 c] w λe w'=>e=.returned (.int .i64 (Lib.lastIndexByte s c))/\w'=w:=Any.strings_LastIndexByte lays149 s c hs w
def Tryz.lays102_ren:Go.Shelf.Ren:=⟨fun|102=>233|209=>295|207=>347|n=>n,fun|9=>9|4=>4|3=>3|n=>n,fun|n=>n⟩
theorem Tryz.lays102:Go.Proofs.Lays.n102 prog lays102_ren:={
 mixed:=by kernel_rfl
 f102:=func233.trans (congrArg some (by kernel_rfl))
 f207:=func347.trans (congrArg some (by kernel_rfl))
 f209:=func295.trans (congrArg some (by kernel_rfl))
 t3:=underlying3
 a3:=isAgg3
 z3:=sizeOf3
 v3:=zeroValue3
 t4:=underlying4
 a4:=isAgg4
 z4:=sizeOf4
 v4:=zeroValue4
 t9:=underlying9
 a9:=isAgg9
 z9:=sizeOf9
 v9:=zeroValue9 }
open Go.RowKit Go.Lib in
theorem Tryz.strings_TrimSuffix (s p:ByteArray) (w:World) (hs:s.size<=9223372036854775807):
  Calls prog 233 #[.string s,.string p] w λe w'=>e=.returned (.string ⟨(Lib.trimSuffix s.data.toList p.data.toList).toArray⟩)/\w'=w:=Any.strings_TrimSuffix lays102 s p w hs
def Tryz.lays221_ren:Go.Shelf.Ren:=⟨fun|221=>98|268=>157|138=>158|143=>159|195=>235|197=>218|218=>236|219=>237|260=>286|217=>297|225=>298|224=>299|267=>300|266=>348|314=>349|n=>n,fun|9=>9|3=>3|31=>99|4=>4|0=>0|105=>318|21=>21|5=>5|46=>161|119=>423|139=>426|138=>425|146=>432|51=>330|n=>n,fun|1=>0|3=>1|4=>2|n=>n⟩
theorem Tryz.lays221:Go.Proofs.Lays.n221 prog lays221_ren:={
 mixed:=by kernel_rfl
 f138:=func158.trans (congrArg some (by kernel_rfl))
 f143:=func159.trans (congrArg some (by kernel_rfl))
 f195:=func235.trans (congrArg some (by kernel_rfl))
 f197:=func218.trans (congrArg some (by kernel_rfl))
 f217:=func297.trans (congrArg some (by kernel_rfl))
 f218:=func236.trans (congrArg some (by kernel_rfl))
 f219:=func237.trans (congrArg some (by kernel_rfl))
 f221:=func98.trans (congrArg some (by kernel_rfl))
 f224:=func299.trans (congrArg some (by kernel_rfl))
 f225:=func298.trans (congrArg some (by kernel_rfl))
 f260:=func286.trans (congrArg some (by kernel_rfl))
 f266:=func348.trans (congrArg some (by kernel_rfl))
 f267:=func300.trans (congrArg some (by kernel_rfl))
 f268:=func157.trans (congrArg some (by kernel_rfl))
 f314:=func349.trans (congrArg some (by kernel_rfl))
 t0:=underlying0
 a0:=isAgg0
 z0:=sizeOf0
 v0:=zeroValue0
 t3:=underlying3
 a3:=isAgg3
 z3:=sizeOf3
 v3:=zeroValue3
 t4:=underlying4
 a4:=isAgg4
 z4:=sizeOf4
 v4:=zeroValue4
 t5:=underlying5
 a5:=isAgg5
 z5:=sizeOf5
 v5:=zeroValue5
 t9:=underlying9
 a9:=isAgg9
 z9:=sizeOf9
 v9:=zeroValue9
 t21:=underlying21
 a21:=isAgg21
 z21:=sizeOf21
 v21:=zeroValue21
 t31:=underlying99
 a31:=isAgg99
 z31:=sizeOf99
 v31:=zeroValue99
 t46:=underlying161
 a46:=isAgg161
 z46:=sizeOf161
 v46:=zeroValue161
 t51:=underlying330
 a51:=isAgg330
 z51:=sizeOf330
 v51:=zeroValue330
 t105:=underlying318
 a105:=isAgg318
 z105:=sizeOf318
 v105:=zeroValue318
 t119:=underlying423
 a119:=isAgg423
 z119:=sizeOf423
 t138:=underlying425
 a138:=isAgg425
 z138:=sizeOf425
 v138:=zeroValue425
 t139:=underlying426
 a139:=isAgg426
 z139:=sizeOf426
 v139:=zeroValue426
 t146:=underlying432
 a146:=isAgg432
 z146:=sizeOf432
 v146:=zeroValue432
 g1:=by kernel_rfl
 g3:=by kernel_rfl
 g4:=by kernel_rfl }
end Go.Proofs
namespace Go.Proofs.YtgdaahffmcfhpaaGreatDoor
open aA
open Tryz
namespace Pt.Cd
open Go.RowKit
abbrev Rd (w:World) (g:Nat) (d:List UInt8) (a:Nat) (e:Int):Prop:=Blk w g 379 #[d,a,e]
theorem Rd.cells {w:World} {g:Nat} {d:List UInt8} {a:Nat} {e:Int} (h:Rd w g d a e):
  w.cell? g=d/\w.cell? (Qc g 1)=a/\w.cell? (Qc g 2)=e/\w.frozen? ⟨g,0,none⟩=false/\w.frozen? ⟨g,1,none⟩=false/\w.frozen? ⟨g,2,none⟩=false:=
 ⟨h.cell 0,h.cell 1,h.cell 2,h.frozen 0,h.frozen 1,h.frozen 2⟩
theorem wrap_u64 (n:Nat) (h:n < 18446744073709551616):IntKind.u64.wrap (n:Int)=(n:Int):=by simp [IntKind.wrap,IntKind.signed,IntKind.bits];omega
theorem Rg (u c:Nat) (hu:u < 72057594037927936) (hc:c < 256):bits .or .u64 (IntKind.u64.wrap ((u:Int)*256)) (IntKind.u64.wrap (c:Int))=((u*256+c:Nat):Int):=by
 have e1:IntKind.u64.wrap ((u:Int)*256)=((u*256:Nat):Int):=by simp [IntKind.wrap,IntKind.signed,IntKind.bits];omega
 rw [e1,wrap_u64 c (by omega),u64_or_nat _ _ (by omega) (by omega),nat_join 8 (u*256) c (by omega) (by omega)]
theorem Jv {l:List UInt8} {k:Nat} (h:k < 8):gr (l.take k) < 72057594037927936:=by
 have h1:=D8 _ (l.take k) rfl;have h2:(l.take k).length<=7:=by rw [aR];omega
 have h3:(256:Nat) ^ (l.take k).length<=256 ^ 7:=Nat.pow_le_pow_right (by omega) h2;have h4:(256:Nat) ^ 7=72057594037927936:=by decide
 omega
attribute [local go_sem] dR dO dS
theorem BL (g:Nat) (d:List UInt8) (a:Nat) (e:Int) (n:Nat) (w:World) (hR:Rd w g d a e) (ha:a<=d.length) (hd:d.length<=9223372036854775807) (hn:n < 18446744073709551616) (hlt:d.length - a < n):
  Calls prog 342 #[Qp g,.int .u64 n] w λe w'=>e=.returned (.string (bs []))/\Rd w' g d a 10/\w.grownBy w' (some g):=by
 obtain ⟨c0,c1,c2,f0,f1,f2⟩:=hR.cells;go_enter func342,ntmps342;go_wp2;go_quiet (fail)
 have ht:(d.length:Int) - a < n:=by omega
 go_wp2;go_ret;exact ⟨rfl,(hR.drewN nq).set_ 2 _,dh (mT (dz _ _) _) (.inl rfl) _⟩
theorem l8 (g:Nat) (d:List UInt8) (a:Nat) (e:Int) (n:Nat) (w:World) (hR:Rd w g d a e) (ha:a<=d.length) (hd:d.length<=9223372036854775807) (hlt:a+n<=d.length):
  Calls prog 342 #[Qp g,.int .u64 n] w λe' w'=>e'=.returned ((d.drop a).take n)/\Rd w' g d (a+n) e/\w.grownBy w' (some g):=by
 obtain ⟨c0,c1,c2,f0,f1,f2⟩:=hR.cells;have H1:=dL (fM d a (a+n));have H2:dK (a+n - a=n):=by show _=_;omega
 go_enter func342,ntmps342;go_wp2;go_quiet (fail)
 have ht:¬ (d.length:Int) - a < n:=by omega
 go_wp2;go_quiet (fail)
 go_wp2;go_ret;refine ⟨?_,(hR.drewN _).set_ 1 _,dh (mT (dz _ _) _) (.inl rfl) _⟩;show Ending.returned (.string ((bs d).extract a (a+n)))=_;rw [H1.o,H2.o]
theorem Rh (g:Nat) (d:List UInt8) (w:World) (hR:Rd w g d d.length 0) (hd:d.length<=9223372036854775807):
  Calls prog 285 #[Qp g] w λe' w'=>e'=.returned (.int .u64 0)/\Rd w' g d d.length 10/\w.grownBy w' (some g):=by
 go_enter func285,ntmps285;go_wp2_with fail;refine (BL g d d.length 0 1 w hR (aB _) hd (by omega) (by omega)).mono ?_;rintro e w1 ⟨rfl,oB,hg1⟩;obtain ⟨c0,c1,c2,f0,f1,f2⟩:=oB.cells;go_wp2_with fail;go_ret;exact ⟨rfl,oB,hg1⟩
theorem Ri (g:Nat) (d:List UInt8) (a:Nat) (h:UInt8) (t:List UInt8) (w:World) (hR:Rd w g d a 0) (zA:d.drop a=h :: t) (hd:d.length<=9223372036854775807) (hh:8 < h.toNat):
  Calls prog 285 #[Qp g] w λe' w'=>e'=.returned (.int .u64 0)/\Rd w' g d (a+1) 11/\w.grownBy w' (some g):=by
 have hlen:d.length - a=t.length+1:=by rw [<-ah,zA];rfl
 have HD:dK ((d.drop a).take 1=[h]):=by show _=_;rw [zA];rfl
 clear zA;have hle:a+1<=d.length:=by omega
 clear hlen;go_enter func285,ntmps285;go_wp2_with fail;refine (l8 g d a 0 1 w hR (by omega) hd hle).mono ?_;rintro e w1 ⟨rfl,oB,hg1⟩;rw [HD.o];obtain ⟨c0,c1,c2,f0,f1,f2⟩:=oB.cells;go_wp2_with fail;go_ret;exact ⟨rfl,oB.set_ 2 _,dh hg1 (.inl rfl) _⟩
theorem Jw (g:Nat) (d:List UInt8) (a:Nat) (h:UInt8) (t:List UInt8) (w:World) (hR:Rd w g d a 0) (zA:d.drop a=h :: t) (hd:d.length<=9223372036854775807) (hh:h.toNat<=8) (ht:t.length < h.toNat):
  Calls prog 285 #[Qp g] w λe' w'=>e'=.returned (.int .u64 0)/\Rd w' g d (a+1) 10/\w.grownBy w' (some g):=by
 have hlen:d.length - a=t.length+1:=by rw [<-ah,zA];rfl
 have HD:dK ((d.drop a).take 1=[h]):=by show _=_;rw [zA];rfl
 clear zA;have hle:a+1<=d.length:=by omega
 have hsh:d.length - (a+1) < h.toNat:=by omega
 clear hlen;go_enter func285,ntmps285;go_wp2_with fail;refine (l8 g d a 0 1 w hR (by omega) hd hle).mono ?_;rintro e w1 ⟨rfl,oB,hg1⟩;rw [HD.o];obtain ⟨c0,c1,c2,f0,f1,f2⟩:=oB.cells;go_wp2_with fail;refine (BL g d (a+1) 0 h.toNat w1 oB hle hd (by omega) hsh).mono ?_;rintro e w2 ⟨rfl,um,hg2⟩;go_wp2_with fail;go_loop [5,6,39] (λu _ i=>i=.int .i64 0/\u=.int .u64 0) (λ_ _ _=>0)
 case atStart=>exact ⟨rfl,rfl⟩
 case round=>
  obtain ⟨rfl,rfl⟩:=hrel;go_wp2_with fail;go_ret;exact ⟨rfl,um,fJ hg1 hg2⟩
theorem N7 (g:Nat) (d:List UInt8) (a:Nat) (h:UInt8) (t:List UInt8) (w:World) (hR:Rd w g d a 0) (zA:d.drop a=h :: t) (hd:d.length<=9223372036854775807) (hh:h.toNat<=8) (ht:h.toNat<=t.length) (s':List UInt8) (hs:t.take h.toNat=0 :: s'):
  Calls prog 285 #[Qp g] w λe' w'=>e'=.returned (.int .u64 0)/\Rd w' g d (a+1+h.toNat) 11/\w.grownBy w' (some g):=by
 have hlen:d.length - a=t.length+1:=by rw [<-ah,zA];rfl
 have HD:dK ((d.drop a).take 1=[h]):=by show _=_;rw [zA];rfl
 have HS:dK ((d.drop (a+1)).take h.toNat=0 :: s'):=by show _=_;rw [<-List.drop_drop,zA,List.drop_one,List.tail_cons,hs]
 clear zA hs;have hle:a+1<=d.length:=by omega
 have hsh:a+1+h.toNat<=d.length:=by omega
 clear hlen;go_enter func285,ntmps285;go_wp2_with fail;refine (l8 g d a 0 1 w hR (by omega) hd hle).mono ?_;rintro e w1 ⟨rfl,oB,hg1⟩;rw [HD.o];obtain ⟨c0,c1,c2,f0,f1,f2⟩:=oB.cells;go_wp2_with fail;refine (l8 g d (a+1) 0 h.toNat w1 oB hle hd hsh).mono ?_;rintro e w2 ⟨rfl,um,hg2⟩;rw [HS.o];obtain ⟨k0,k1,k2,j0,j1,j2⟩:=um.cells;go_wp2_with fail;go_ret;exact ⟨rfl,um.set_ 2 _,dh (fJ hg1 hg2) (.inl rfl) _⟩
theorem Rj (g:Nat) (d:List UInt8) (a:Nat) (h:UInt8) (t:List UInt8) (w:World) (hR:Rd w g d a 0) (zA:d.drop a=h :: t) (hd:d.length<=9223372036854775807) (hh:h.toNat<=8) (ht:h.toNat<=t.length) (s:List UInt8) (hs:t.take h.toNat=s) (h0:s.head?≠some 0):
  Calls prog 285 #[Qp g] w λe' w'=>e'=.returned (.int .u64 (gr s))/\Rd w' g d (a+1+h.toNat) 0/\w.grownBy w' (some g):=by
 have hlen:d.length - a=t.length+1:=by rw [<-ah,zA];rfl
 have HD:dK ((d.drop a).take 1=[h]):=by show _=_;rw [zA];rfl
 have HS:dK ((d.drop (a+1)).take h.toNat=s):=by show _=_;rw [<-List.drop_drop,zA,List.drop_one,List.tail_cons,hs]
 have HL:dK (s.length=h.toNat):=by show _=_;rw [<-hs,aR];omega
 clear zA hs;have hle:a+1<=d.length:=by omega
 have hsh:a+1+h.toNat<=d.length:=by omega
 have hl8:s.length<=8:=by rw [HL.o];exact hh
 clear hlen;have HB:dK ((s=[]\/∃c s',s=c :: s'/\c≠0)):=by
  cases s with
  |nil=>exact .inl rfl
  |cons c s'=>exact .inr ⟨c,s',rfl,λe=>h0 (by rw [e];rfl)⟩
 clear h0;go_enter func285,ntmps285;go_wp2_with fail;refine (l8 g d a 0 1 w hR (by omega) hd hle).mono ?_;rintro e w1 ⟨rfl,oB,hg1⟩;rw [HD.o];obtain ⟨c0,c1,c2,f0,f1,f2⟩:=oB.cells;go_wp2_with fail;refine (l8 g d (a+1) 0 h.toNat w1 oB hle hd hsh).mono ?_;rintro e w2 ⟨rfl,um,hg2⟩;rw [HS.o];have eV:=fJ hg1 hg2;clear hg1 hg2 oB c0 c1 c2 f0 f1 f2 hR;by_cases hp:0 < s.length
 ·have hc0:(((s[0]'hp).toNat:Int) ==0)=false:=by
   rcases HB.o with e| ⟨c,s',rfl,hc⟩
   ·rw [e] at hp;exact absurd hp (by simp)
   ·have:c.toNat≠0:=λe=>hc (UInt8.toNat_inj.1 (by simpa using e))
    simp;omega
  have hem:s.isEmpty=false:=by
   rcases HB.o with e| ⟨c,s',rfl,hc⟩
   ·rw [e] at hp;exact absurd hp (by simp)
   ·rfl
  clear HB;go_wp2_with fail;go_loop [5,6,39] (λu _ i=>∃k:Nat,k<=s.length/\i=.int .i64 k/\u=.int .u64 (gr (s.take k))) (λ_ _ i=>s.length - (intOf i).toNat)
  case atStart=>exact ⟨0,aS _,rfl,rfl⟩
  case round=>
   obtain ⟨k,hk,rfl,rfl⟩:=hrel;by_cases hlt:k < s.length
   ·have HK:=dL (Rg (gr (s.take k)) (s[k]'hlt).toNat (Jv (by omega)) (s[k]'hlt).toNat_lt)
    have HT:dK (s.take (k+1)=s.take k++[s[k]'hlt]):=ay hlt;go_wp2_with fail;refine ⟨⟨k+1,by omega,by go_num,?_⟩,by simp [intOf];omega⟩;rw [HT.o,nK,HK.o]
   ·obtain rfl:k=s.length:=by omega
    have e:s.take s.length=s:=af (aB _);rw [e];clear e;go_wp2_with fail;go_ret;exact ⟨rfl,um,eV⟩
 ·obtain rfl:s=[]:=List.length_eq_zero_iff.1 (by omega)
  clear HB hl8 HL;go_wp2_with fail;go_loop [5,6,39] (λu _ i=>i=.int .i64 0/\u=.int .u64 0) (λ_ _ _=>0)
  case atStart=>exact ⟨rfl,rfl⟩
  case round=>
   obtain ⟨rfl,rfl⟩:=hrel;go_wp2_with fail;go_ret;exact ⟨rfl,um,eV⟩
end Pt.Cd
namespace Pt.Cd
open Go.RowKit
attribute [local go_sem] dR dO dS
theorem Ib (g:Nat) (d:List UInt8) (a:Nat) (w:World) (hR:Rd w g d a 0) (ha:a<=d.length) (hd:d.length<=9223372036854775807):
  Calls prog 285 #[Qp g] w λe' w'=>e'=.returned (.int .u64 (numR d a).2.2)/\Rd w' g d (numR d a).1 (numR d a).2.1/\w.grownBy w' (some g):=by
 unfold numR;split
 ·rename_i h
  have:a=d.length:=by have:=congrArg List.length h;simp at this;omega
  subst this;exact Rh g d w hR hd
 ·rename_i h t zA
  by_cases h1:8 < h.toNat
  ·rw [if_pos h1]
   exact Ri g d a h t w hR zA hd h1
  ·rw [if_neg h1]
   by_cases h2:t.length < h.toNat
   ·rw [if_pos h2]
    exact Jw g d a h t w hR zA hd (by omega) h2
   ·rw [if_neg h2]
    by_cases h3:(t.take h.toNat).head? =some 0
    ·rw [if_pos h3]
     obtain ⟨s',hs⟩:∃s',t.take h.toNat=0 :: s':=by
      cases hc:t.take h.toNat with
      |nil=>rw [hc] at h3;cases h3
      |cons c s'=>rw [hc] at h3;simp at h3;subst h3;exact ⟨s',rfl⟩
     exact N7 g d a h t w hR zA hd (by omega) (by omega) s' hs
    ·rw [if_neg h3]
     exact Rj g d a h t w hR zA hd (by omega) (by omega) _ rfl h3
theorem Num_any (g:Nat) (d:List UInt8) (a:Nat) (e:Int) (w:World) (hR:Rd w g d a e) (ha:a<=d.length) (hd:d.length<=9223372036854775807):
  Calls prog 215 #[Qp g] w λe' w'=>e'=.returned (.int .i64 (toI (numS d a e).2.2))/\Rd w' g d (numS d a e).1 (numS d a e).2.1/\w.grownBy w' (some g):=by
 obtain ⟨c0,c1,c2,f0,f1,f2⟩:=hR.cells;unfold numS;by_cases he:e=0
 ·subst he
  rw [if_pos rfl];go_enter func215,ntmps215;go_wp2_with fail;refine (Ib g d a w hR ha hd).mono ?_;rintro e w1 ⟨rfl,oB,hg1⟩;go_wp2_with fail;go_ret;exact ⟨IZ (by unfold toI wrap64;rfl),oB,hg1⟩
 ·rw [if_neg he]
  have hne:(e != 0)=true:=by simp [he]
  go_enter func215,ntmps215;go_wp2_with fail;go_ret;exact ⟨rfl,hR,dz _ _⟩
theorem Err_any (g:Nat) (d:List UInt8) (a:Nat) (e:Int) (w:World) (hR:Rd w g d a e):
  Calls prog 216 #[Qp g] w λe' w'=>e'=.returned e/\w=w':=by
 obtain ⟨c0,c1,c2,f0,f1,f2⟩:=hR.cells;go_enter func216,ntmps216;go_wp2_with fail;go_ret;exact ⟨rfl,rfl⟩
theorem Read_any (d:List UInt8) (w:World):
  Calls prog 214 #[d] w λe' w'=>e'=.returned (Qp w)/\Rd w' w d 0 0/\Below w w w':=by
 go_enter func214,ntmps214;go_wp2_with fail;go_ret;exact ⟨rfl,Blk.new _ _ _,(aC _ _).alloc (aB _) _⟩
theorem Text_any (g:Nat) (d:List UInt8) (a:Nat) (e:Int) (w:World) (hR:Rd w g d a e) (ha:a<=d.length) (hd:d.length<=9223372036854775807):
  Calls prog 329 #[Qp g] w λe' w'=>e'=.returned (.string (bs (textS d a e).2.2))/\Rd w' g d (textS d a e).1 (textS d a e).2.1/\w.grownBy w' (some g):=by
 obtain ⟨c0,c1,c2,f0,f1,f2⟩:=hR.cells;by_cases he:e=0
 ·subst he
  have hle:=numR_le d a ha;have hlt:=numR_lt d a;have Er:=Ib g d a w hR ha hd;unfold textS;rw [if_pos rfl];generalize numR d a=r at*;obtain ⟨a1,e1,n⟩:=r;simp only [] at Er hle hlt ⊢;have HN:=dL Er;clear Er;by_cases he1:e1=0
  ·subst he1
   rw [if_pos rfl];by_cases hs:d.length - a1 < n
   ·rw [if_pos hs]
    go_enter func329,ntmps329;go_wp2_with fail;refine HN.o.mono ?_;rintro e w1 ⟨rfl,oB,hg1⟩;obtain ⟨k0,k1,k2,j0,j1,j2⟩:=oB.cells;clear c0 c1 c2 f0 f1 f2;go_wp2_with fail;refine (BL g d a1 0 n w1 oB hle hd hlt hs).mono ?_;rintro e w2 ⟨rfl,um,hg2⟩;go_wp2_with fail;go_ret;exact ⟨rfl,um,fJ hg1 hg2⟩
   ·rw [if_neg hs]
    go_enter func329,ntmps329;go_wp2_with fail;refine HN.o.mono ?_;rintro e w1 ⟨rfl,oB,hg1⟩;obtain ⟨k0,k1,k2,j0,j1,j2⟩:=oB.cells;clear c0 c1 c2 f0 f1 f2;go_wp2_with fail;refine (l8 g d a1 0 n w1 oB hle hd (by omega)).mono ?_;rintro e w2 ⟨rfl,um,hg2⟩;go_wp2_with fail;go_ret;exact ⟨rfl,um,fJ hg1 hg2⟩
  ·rw [if_neg he1]
   have hne:(e1 != 0)=true:=by simp [he1]
   go_enter func329,ntmps329;go_wp2_with fail;refine HN.o.mono ?_;rintro e w1 ⟨rfl,oB,hg1⟩;obtain ⟨k0,k1,k2,j0,j1,j2⟩:=oB.cells;clear c0 c1 c2 f0 f1 f2;go_wp2_with fail;go_ret;exact ⟨rfl,oB,hg1⟩
 ·unfold textS
  rw [if_neg he];have hne:(e != 0)=true:=by simp [he]
  go_enter func329,ntmps329;go_wp2_with fail;go_ret;exact ⟨rfl,hR,dz _ _⟩
theorem End_any (g:Nat) (d:List UInt8) (a:Nat) (e:Int) (w:World) (hR:Rd w g d a e) (ha:a<=d.length) (hd:d.length<=9223372036854775807):
  Calls prog 332 #[Qp g] w λe' w'=>e'=.returned (.int .i64 (endS d a e))/\Below w w w':=by
 obtain ⟨c0,c1,c2,f0,f1,f2⟩:=hR.cells;unfold endS;by_cases he:e=0
 ·subst he
  rw [if_pos rfl];by_cases hlt:a < d.length
  ·rw [if_pos hlt]
   go_enter func332,ntmps332;go_wp2_with fail;refine (Err_any g d a 0 _ hR).mono ?_;rintro e w' ⟨rfl,rfl⟩;go_wp2_with fail;go_quiet (fail)
   go_wp2_with fail;go_ret;exact ⟨rfl,below_drewN (aC _ _) _⟩
  ·rw [if_neg hlt]
   go_enter func332,ntmps332;go_wp2_with fail;refine (Err_any g d a 0 _ hR).mono ?_;rintro e w' ⟨rfl,rfl⟩;go_wp2_with fail;go_quiet (fail)
   go_wp2_with fail;go_ret;exact ⟨rfl,below_drewN (aC _ _) _⟩
 ·rw [if_neg he]
  have hne:(e != 0)=true:=by simp [he]
  go_enter func332,ntmps332;go_wp2_with fail;refine (Err_any g d a e _ hR).mono ?_;rintro e w' ⟨rfl,rfl⟩;go_wp2_with fail;go_ret;exact ⟨rfl,aC _ _⟩
end Pt.Cd
end Go.Proofs.YtgdaahffmcfhpaaGreatDoor
