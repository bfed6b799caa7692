/- Lemmas on the way: PCdC. -/
import Derived.Test.YtgdaahffmcfhpaaGreatDoorO04
set_option linter.unusedVariables false
set_option maxRecDepth 100000
set_option maxHeartbeats 8000000
namespace Go.Proofs.YtgdaahffmcfhpaaGreatDoor
open aA
open Tryz
namespace Pt.Cd
open Go.RowKit
attribute [local go_sem] dR dO dS
theorem D5:(prog.info? 5).map (λi=>(i.zero,i.size,i.bytes))=some (some (.int .u8 0),1,1):=by kernel_rfl
theorem pO {w:World} {B:Nat} {v:Value} {n:Nat} {l:List UInt8} (h:w.ownsRow B 5 1 v n (bv l)) (hn:0 < n):
  ∃g cap,v=.slice (some ⟨g,0,none⟩) n cap/\l.length=n/\(convert 259 9 (.slice (some ⟨g,0,none⟩) n cap)).run prog w=.ok (.string (bs l)) w:=by
 have hlen:l.length=n:=by have:=h.1;simpa [bv] using this
 rcases h.2 with ⟨rfl,rfl⟩| ⟨g,cap,cur,rfl,hg,hh,hle,lg,hsz,htk⟩
 ·omega
 ·have hB:Blk w g 5 cur:=hh
  refine ⟨g,cap,rfl,hlen,?_⟩;have:=run_convert_bytes_back (P:=prog) w 259 9 5 ⟨g,0,none⟩ cap l underlying259 underlying5 underlying9 (λj hj=>by
   have e1:=hB.cell j;have e2:(cur.toList.take (n*1))[j]? =some (.int .u8 (l[j].toNat:Int)):=by rw [htk];simp [bv,hj]
   rw [bf (by omega),cN] at e2;rw [e2] at e1;have kL:(Addr.mk g 0 none).add j= ⟨g,j,none⟩:=by unfold Addr.add;split <;> simp_all
   rw [kL];simpa using e1)
  rw [hlen] at this;exact this
theorem Fg (u m:Nat):(u:Int) / 2 ^ (8*m) % 256=((u / 256 ^ m % 256:Nat):Int):=by
 have e:(2:Int) ^ (8*m)=((256 ^ m:Nat):Int):=by rw [show (256:Nat)=2 ^ 8 from rfl,<-Nat.pow_mul,Int.natCast_pow];rfl
 rw [e,<-Int.natCast_ediv];generalize u / 256 ^ m=x;omega
theorem Jy {u k j:Nat} (hk:(gB u).length=k) (hj:j < k):(gB u).take (j+1)=(gB u).take j++[u / 256 ^ (k - 1 - j) % 256]:=by
 have h:=Jt 8 u j (by unfold gB at hk;omega);have h2:(fK 8 u).length=k:=hk;rw [h2] at h;rw [List.take_add_one];show _++((fK 8 u)[j]?).toList=_;rw [h];rfl
theorem Rk (u:Nat):(Value.int .u8 ((gB u).length:Int) :: ((gB u).map λ(d:Nat)=>Value.int .u8 (d:Int)))=bv (numU u):=by
 have h8:=jI u;unfold bv numU;rw [bB,List.map_map];congr 1
 ·rw [UInt8.toNat_ofNat'];congr 2;omega
 ·apply List.map_congr_left
  intro d hd;have:=D6 8 u d hd;show _=Value.int .u8 ((UInt8.ofNat d).toNat:Int);rw [UInt8.toNat_ofNat'];congr 2;omega
theorem bitLen_le {u:Nat} (h:u < 18446744073709551616):(Lib.bitLen u+7) / 8<=8:=by rw [<-D7 h];exact jI u
theorem num_c (n:Int) (w:World) (hn:-9223372036854775808<=n/\n<=9223372036854775807):
  Calls prog 178 #[n] w λe' w'=>e'=.returned (numL n)/\Below w w w':=by
 unfold numL;have hlt:=u64_lt n;have hw:IntKind.u64.wrap n=(u64 n:Int):=by unfold u64;simp [IntKind.wrap,IntKind.signed,IntKind.bits];omega
 generalize u64 n=u at*;have VC:=bitLen_le hlt;have HK:=dL (D7 hlt);generalize hk:(Lib.bitLen u+7) / 8=k at*;have hki:((Lib.bitLen u:Int)+7) / 8=(k:Int):=by omega
 have jW:Lib.bitLen u<=64:=by omega
 clear hk;obtain ⟨i0,hi,hz0,hz1,hz2⟩:=info_parts D5;have HI:=dL hi;have gx:=dL hz0;have gJ:=dL hz1;have gT:=dL hz2;clear hi hz0 hz1 hz2;go_enter func178,ntmps178;go_wp2_with fail;refine (bits_Len64 _ _ (by omega) (by omega)).mono ?_;rintro e w' ⟨rfl,rfl⟩;rw [Int.toNat_natCast];go_wp2_with fail;clear hki;go_loopw [4,5] (λv i wr=>∃j:Nat,j<=k/\i=.int .i64 ((k:Int) - 1 - j)/\Below w' w' wr/\wr.ownsRow w' 5 1 v (1+j) (.int .u8 k :: ((gB u).take j).map λ(d:Nat)=>Value.int .u8 (d:Int))) (λ_ i _=>(intOf i+1).toNat)
 case atStart=>
  refine ⟨0,aS _,?_,(aC _ _).alloc (aB _) _,rfl,.inr ⟨_,1,_,rfl,aB _,Blk.new _ _ _,aB _,by decide,rfl,?_⟩⟩
  ·simp
  ·simp
 case round=>
  obtain ⟨j,hj,rfl,hb,hown⟩:=hrel;have HO:=dL hown;clear hown;by_cases hlt2:j < k
  ·have hge:(0:Int)<=(k:Int) - 1 - j:=by omega
   have hbase:=hb.size;go_wp2_with (at_builtin;refine wpList_append_own _ rfl _ _ 259 rfl w'.heap.size 5 i0 (.int .u8 0) 1 1 underlying259 HI.o gx.o gJ.o gT.o rfl (by decide) _ _ _ rfl (HO.o.alloc _) ⟨wr.heap.size,0,none⟩ 1 1 [.int .u8 ((u:Int) / 2 ^ (8*(k - 1 - j)) % 256)] rfl rfl ?c1 ?c2 ?c3 ?c4 ?c5 ?_)
   case c1=>exact cell_one_new _ _ _
   case c2=>simp [Value.oneCell']
   case c3=>unfold maxLen;omega
   case c4=>omega
   case c5=>first|omega|(simp;omega)
   intro v' w1 hown' hgrow _;have HO':dK (w1.ownsRow w' 5 1 v' (1+(j+1)) (.int .u8 k :: ((gB u).take (j+1)).map λ(d:Nat)=>Value.int .u8 (d:Int))):=by
    show World.ownsRow _ _ _ _ _ _ _;rw [Jy HK.o hlt2,bQ,bB,List.map_nil,<-Fg,List.map_take];exact hown'
   have dV:Below w' w' w1:=(hb.alloc hbase _).grown hgrow (by simp;omega) (by
    intro g hg;rcases HO.o.2 with ⟨rfl,_⟩| ⟨g',cap,cur,rfl,hge,_⟩
    ·simp [Value.ownBlock] at hg
    ·simp [Value.ownBlock] at hg;omega)
   clear hown' hgrow;go_wp2_with fail;go_roundw
   case rel=>exact ⟨j+1,by omega,congrArg (Value.int .i64) (by omega),dV,HO'.o⟩
   case measure=>simp [intOf];omega
  ·obtain rfl:j=k:=by omega
   have ho:wr.ownsRow w' 5 1 u4 (1+j) (bv (numU u)):=by
    rw [<-Rk,HK.o];have:=HO.o;rw [af (by rw [HK.o];exact aB _)] at this;exact this
   obtain ⟨g,cap,rfl,hlen,agi⟩:=pO ho (by omega);go_wp2_with fail;go_ret;exact ⟨rfl,hb⟩
end Pt.Cd
end Go.Proofs.YtgdaahffmcfhpaaGreatDoor
