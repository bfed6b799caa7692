/- Lemmas on the way: Words Bs YPlain YA YB YC Maps PShA. -/
import Derived.WalkKit
import Derived.WalkSpells
import Derived.WalkLawsBesides
import Derived.Lib.Hide
import Derived.Deep.Slices
import Derived.Laws.OwnMore
import Derived.Deep.AppendLies
import Derived.BigQuiet
import Derived.Laws.BitsAllLaws
import Derived.Laws.Entries
import Derived.Test.YtgdaahffmcfhpaaGreatDoorProg
import Derived.Defers
import Derived.Laws.Pointers
import Derived.Laws.LoneSync
import Derived.RegionTactic
import Derived.RegionCalls
import Derived.ChangeAlike
import Derived.MapKept
import Derived.Carry
import Derived.Test.YtgdaahffmcfhpaaGreatDoorO00
set_option maxRecDepth 100000
set_option maxHeartbeats 8000000
namespace Go.Proofs.YtgdaahffmcfhpaaGreatDoor
open aA
open Tryz
section
open Go.RowKit
theorem IZ {k:IntKind} {a b:Int} (h:a=b):Ending.returned (.int k a)=.returned (.int k b):=by rw [h]
theorem Cz {a b:Bool} (h:a=b):Ending.returned a=.returned b:=by rw [h]
theorem qb (a:Addr) (i j:Nat):(a.add i).add j=a.add (i+j):=by
 unfold Addr.add;by_cases hi:i=0 <;> by_cases hj:j=0 <;> simp [hi,hj,bk]
def Blk (w:World) (g:Nat) (t:TypeId) (cs:Array Value):Prop:=w.heap[g]? =some (.cells cs t (0,0))
section
variable {w w':World} {g:Nat} {t:TypeId} {cs:Array Value}
theorem Blk.lt (h:Blk w g t cs):g < w.heap.size:=by
 rcases aD g w with hlt|hge
 ·exact hlt
 ·unfold Blk at h;rw [ax hge] at h;cases h
theorem Blk.cell (h:Blk w g t cs) (i:Nat):w.cell? (Qc g i)=cs[i]?:=cell_of_row w g i cs t (0,0) h
theorem Blk.frozen (h:Blk w g t cs) (i:Nat):w.frozen? ⟨g,i,none⟩=false:=by
 unfold Blk at h;simp [World.frozen?,h]
theorem Blk.new (w:World) (t:TypeId) (cs:Array Value):Blk (w.alloc (.cells cs t)) w t cs:=heap_alloc_new w _
theorem Blk.drew (h:Blk w g t cs):Blk w.drew g t cs:=h
theorem Blk.drewN (h:Blk w g t cs) (n:Nat):Blk (w.drewN n) g t cs:=h
theorem Blk.alloc (h:Blk w g t cs) (o:Obj):Blk (w.alloc o) g t cs:=(bM w o g h.lt).trans h
theorem Blk.set_ (h:Blk w g t cs) (i:Nat) (u:Value):Blk (w.setCell (Qc g i) u) g t (cs.setIfInBounds i u):=by
 unfold Blk at h ⊢;simp [World.setCell,cK,h]
theorem Blk.far (h:Blk w g t cs) {p:Addr} (hp:g≠p.block) (u:Value):Blk (w.setCell p u) g t cs:=(bU w p u g hp).trans h
theorem Blk.below {B:Nat} (h:Blk w g t cs) (hb:Below B w w') (hg:g < B):Blk w' g t cs:=(hb.block g hg).trans h
theorem Blk.grown {row:Option Nat} (h:Blk w g t cs) (hb:w.grownBy w' row) (hg:some g≠row):Blk w' g t cs:=(hb.block g h.lt hg).trans h
end
structure Sl {α:Type} (w:World) (size:Nat) (R:List Value->α->Prop) (A:Option Addr) (n c:Nat) (xs:List α):Prop where
 len:xs.length=n
 le:n<=c
 max:c<=9223372036854775807
 get:∀i (h:i < xs.length),∃b off cs,A=some ⟨b,off,none⟩/\b < w.heap.size/\cs.length=size/\R cs xs[i]/\∀j u,cs[j]? =some u->w.cell? ⟨b,off+i*size+j,none⟩=some u
section
variable {α:Type} {w w':World} {size n c:Nat} {R:List Value->α->Prop} {A:Option Addr} {xs:List α}
theorem Sl.below (h:Sl w size R A n c xs) (hb:Below w w w'):Sl w' size R A n c xs:=
 ⟨h.1,h.2,h.3,λi hi=>by
  obtain ⟨b,off,cs,e,hlt,hl,hR,hc⟩:=h.4 i hi;exact ⟨b,off,cs,e,aN hlt hb.size,hl,hR,λj u hu=>(hb.cell hlt).trans (hc j u hu)⟩⟩
theorem Sl.nil_:Sl w size R none 0 0 ([]:List α):=⟨rfl,aB _,by omega,λi hi=>absurd hi (by simp)⟩
theorem Sl.mono {R':List Value->α->Prop} (h:Sl w size R A n c xs) (hR:∀cs x,R cs x->R' cs x):Sl w size R' A n c xs:=
 ⟨h.1,h.2,h.3,λi hi=>by
  obtain ⟨b,off,cs,e,hlt,hl,YV,hc⟩:=h.4 i hi;exact ⟨b,off,cs,e,hlt,hl,hR _ _ YV,hc⟩⟩
end
def oS (x:Int):Prop:=-9223372036854775808<=x/\x<=9223372036854775807
def uv (cs:List Value) (x:Int):Prop:=cs=[.int .i64 x]/\oS x
def nth (xs:List Int) (k:Nat):Int:=xs.getD k 0
variable {xs:List Int} {k n g id:Nat}
theorem Mo (h:k < xs.length):nth xs k=xs[k]:=by simp [nth,h]
variable {w W a w1:World} {A:Option Addr}
theorem Sl.int_at {c:Nat} (h:Sl w 1 uv A n c xs) (hk:k < n):
  ∃b off,A=some ⟨b,off,none⟩/\b < w.heap.size/\w.cell? ⟨b,off+k,none⟩=some (.int .i64 (nth xs k))/\-9223372036854775808<=nth xs k/\nth xs k<=9223372036854775807:=by
 obtain ⟨b,off,cs,e,hlt,hl,⟨rfl,hr⟩,hc⟩:=h.4 k (by rw [h.len];exact hk);refine ⟨b,off,e,hlt,?_,?_⟩
 ·have:=hc 0 _ rfl
  rw [Mo (by rw [h.len];exact hk)];simpa using this
 ·rw [Mo (by rw [h.len];exact hk)];exact hr
def Mp (cs:List Value) (x:Int×Int):Prop:=cs=[.int .i64 x.1,.int .i64 x.2]/\oS x.1/\oS x.2
def RX (w:World) (cs:List Value) (xs:List Int):Prop:=∃A n c,cs=[.slice A n c]/\Sl w 1 uv A n c xs
theorem RX.below {w w':World} {cs:List Value} {xs:List Int} (h:RX w cs xs) (hb:Below w w w'):RX w' cs xs:=by
 obtain ⟨A,n,c,e,h⟩:=h;exact ⟨A,n,c,e,h.below hb⟩
def Zp (w:World) (A:Option Addr) (n c:Nat) (xss:List (List Int)):Prop:=Sl w 1 (RX w) A n c xss
theorem Zp.below {w w':World} {A:Option Addr} {n c:Nat} {xss:List (List Int)} (h:Zp w A n c xss) (hb:Below w w w'):Zp w' A n c xss:=
 (Sl.below h hb).mono λ_ _ hr=>hr.below hb
def Vz (xss:List (List Int)) (k:Nat):List Int:=xss.getD k []
theorem RY{xs:List (List Int)} (h:k < xs.length):Vz xs k=xs[k]:=by simp [Vz,h]
theorem Zp.row_at {c:Nat} {xs:List (List Int)} (h:Zp w A n c xs) (hk:k < n):
  ∃b off A' n' c',A=some ⟨b,off,none⟩/\b < w.heap.size/\w.cell? ⟨b,off+k,none⟩=some (.slice A' n' c')/\Sl w 1 uv A' n' c' (Vz xs k):=by
 obtain ⟨b,off,cs,e,hlt,hl,⟨A',n',c',rfl,hr⟩,hc⟩:=h.4 k (by rw [h.len];exact hk);refine ⟨b,off,A',n',c',e,hlt,?_,?_⟩
 ·have:=hc 0 _ rfl
  simpa using this
 ·rw [RY (by rw [h.len];exact hk)];exact hr
theorem dz (w:World) (r:Option Nat):w.grownBy w r:=⟨rfl,rfl,rfl,aB _,λ_ _ _=>rfl⟩
variable {r:Option Nat}
theorem fJ{b c:World} (h:a.grownBy b r) (k:b.grownBy c r):a.grownBy c r:=
 ⟨k.os.trans h.os,k.tape.trans h.tape,k.output.trans h.output,aI h.size k.size,λi hi hn=>(k.block i (aN hi h.size) hn).trans (h.block i hi hn)⟩
theorem kQ (h:a.grownBy w r):a.grownBy w.drew r:=⟨h.os,h.tape,h.output,h.size,h.block⟩
theorem mT (h:a.grownBy w r) (n:Nat):a.grownBy (w.drewN n) r:=⟨h.os,h.tape,h.output,h.size,h.block⟩
theorem D2 (h:a.grownBy w r) (o:Obj):a.grownBy (w.alloc o) r:=
 ⟨h.os,h.tape,h.output,aI h.size (by simp),λi hi hne=>(bM w o i (aN hi h.size)).trans (h.block i hi hne)⟩
theorem dh (h:a.grownBy w (some g)) {p:Addr} (hp:p.block=g\/a.heap.size<=p.block) (u:Value):a.grownBy (w.setCell p u) (some g):=
 ⟨h.os,h.tape,h.output,by simpa [World.setCell] using h.size,λi hi hne=>(bU w p u i (by
  rintro rfl;rcases hp with hp|hp
  ·exact hne (by rw [hp])
  ·omega)).trans (h.block i hi hne)⟩
theorem rK (h:a.grownBy w r) (hb:Below w w w1):a.grownBy w1 r:=
 ⟨hb.os.trans h.os,hb.tape.trans h.tape,hb.output.trans h.output,aI h.size hb.size,λi hi hn=>(hb.block i (aN hi h.size)).trans (h.block i hi hn)⟩
theorem eY{B:Nat} {w0 w':World} (h:Below B w0 w) (hg:w.grownBy w' (some g)) (hB:B<=g) (hs:B<=w.heap.size):Below B w0 w':=h.grown hg hs (λk hk=>by cases hk;exact hB)
theorem fC (hb:Below w w w1) (r:Option Nat):w.grownBy w1 r:=rK (dz w r) hb
variable {v:Value}
theorem eB {o:Nat} (h:w.cell? (Qc g o)=some v):g < w.heap.size:=by
 rcases aD g w with hlt|hge
 ·exact hlt
 ·simp [World.cell?,ax hge] at h
theorem dU (hb:Below w w w1) {o:Nat} (hg:g < w.heap.size) (h:w.cell? (Qc g o)=some v):w1.cell? (Qc g o)=some v:=(hb.cell (p:=Qc g o) hg).trans h
structure eE (W:World) where
 wd:World
 below:Below W W wd
instance (W:World):Nonempty (eE W):=⟨⟨W,aC _ _⟩⟩
variable {P:Program}
theorem eo {Q:Exit->Act->World->Prop} {a:Act} {l:List Oper} (hm:P.follows .mixedOrders=true) (hB:Region.lexB .any l.toArray=true)
  (h:wpQuiet P l.toArray (λw'=>∃x:eE w,w'=x.wd) (λa'=>∀w',(∃x:eE w,w'=x.wd)->Q .normal a' w') l a):(Code.region id l.toArray true).wp P Q a w:=
 wp_region_quiet (C:=λw'=>∃x:eE w,w'=x.wd) hm hB ⟨⟨_,(aC _ _).drew⟩,rfl⟩ (by simpa using h)
variable {args:Array Value}
theorem gX {f:FuncId} {x:eE W} (h:Calls P f args x.wd λe w'=>e=.returned v/\Below x.wd x.wd w'):
  Calls P f args x.wd λe w''=>e=.returned v/\∃y:eE W,w''=y.wd:=
 h.mono λ_ w' ⟨he,hb⟩=> ⟨he,⟨w',x.below.trans (hb.mono x.below.size)⟩,rfl⟩
theorem wI {f:FuncId} {x:eE W} (h:Calls P f args x.wd λe w'=>e=.returned v/\x.wd=w'):
  Calls P f args x.wd λe w''=>e=.returned v/\∃y:eE W,w''=y.wd:=
 h.mono λ_ _ ⟨he,hb⟩=> ⟨he,x,hb.symm⟩
theorem eE.cell {W:World} (x:eE W) {g o:Nat} {v:Value} (h:W.cell? (Qc g o)=some v):x.wd.cell? (Qc g o)=some v:=dU x.below (eB h) h
end
section
def bs (l:List UInt8):ByteArray:=⟨l.toArray⟩
instance:Coe (List UInt8) Value:=⟨λl=>.string (bs l)⟩
theorem dR (l:List UInt8):(bs l).size=l.length:=by simp [bs,ByteArray.size]
theorem dO (l:List UInt8) (i:Nat) (h:i < (bs l).size):(bs l)[i]'h=l[i]'(by rw [dR] at h;exact h):=rfl
theorem dS (l:List UInt8):(bs l).toList=l:=ByteArray.toList_mk l
theorem j6 (l:List UInt8):(bs l).data.toList=l:=by simp [bs]
theorem Uk (s:ByteArray):s=bs s.data.toList:=by simp [bs]
theorem fM (l:List UInt8) (a b:Nat):(bs l).extract a b=bs ((l.drop a).take (b - a)):=by
 rw [Uk ((bs l).extract a b)];congr 1;rw [show (bs l).extract a b=(⟨l.toArray⟩:ByteArray).extract a b from rfl];simp [List.extract_eq_take_drop]
theorem dP (a b:List UInt8):bs a++bs b=bs (a++b):=by
 rw [Uk (bs a++bs b)];simp [bs]
end
namespace Cr
def tick (x:Nat):Nat:=x / 2 ^^^ x % 2*3988292384
def ticks:Nat->Nat->Nat
 |0,x=>x
 |n+1,x=>tick (ticks n x)
def mB (x:Nat):Nat:=ticks 8 x
def upd (x b:Nat):Nat:=x / 256 ^^^ mB (x % 256 ^^^ b)
variable {X x n:Nat}
theorem RZ (h:x < 4294967296):tick x < 4294967296:=by
 unfold tick;refine Nat.xor_lt_two_pow (n:=32) (by omega) ?_;have:x % 2<=1:=by omega
 have:=bA 3988292384 this;omega
theorem wJ {x:Nat} (h:x < 4294967296):∀n,ticks n x < 4294967296
 |0=>h
 |n+1=>RZ (wJ h n)
theorem D3 (h:x < 4294967296):mB x < 4294967296:=wJ h 8
theorem Mq (x y:Nat):(x ^^^ y) / 2=x / 2 ^^^ y / 2:=by
 have:=@Nat.shiftRight_xor_distrib 1 x y;simpa [Nat.shiftRight_eq_div_pow] using this
theorem Mr (x y:Nat):(x ^^^ y) % 2=(x % 2 ^^^ y % 2):=by
 have:=@Nat.xor_mod_two_pow x y 1;simpa using this
theorem Mt (x y:Nat):tick (x ^^^ y)=tick x ^^^ tick y:=by
 unfold tick;rw [Mq,Mr];have e:(x % 2 ^^^ y % 2)*3988292384=(x % 2*3988292384) ^^^ (y % 2*3988292384):=by
  rcases Nat.mod_two_eq_zero_or_one x with hx|hx <;> rcases Nat.mod_two_eq_zero_or_one y with hy|hy <;> simp [hx,hy]
 rw [e]
 ac_rfl
theorem zu (x y:Nat):∀n,ticks n (x ^^^ y)=ticks n x ^^^ ticks n y
 |0=>rfl
 |n+1=>by simp only [ticks];rw [zu x y n,Mt]
theorem Jl (x:Nat):tick (2*x)=x:=by simp [tick]
theorem D4 (x:Nat):∀n,ticks n (2 ^ n*x)=x
 |0=>by simp [ticks]
 |n+1=>by
  have:ticks n (2 ^ (n+1)*x)=2*x:=by
   have:=D4 (2*x) n
   rwa [show 2 ^ n*(2*x)=2 ^ (n+1)*x from by rw [Nat.pow_succ,Nat.mul_assoc]] at this
  simp only [ticks];rw [this,Jl]
theorem Jm (x:Nat):x=(256*(x / 256)) ^^^ (x % 256):=by
 have h:=Nat.two_pow_add_eq_or_of_lt (i:=8) (b:=x % 256) (by omega) (x / 256);have h1:256*(x / 256)+x % 256=x:=by omega
 have h2:(2 ^ 8*(x / 256)) ||| (x % 256)=(2 ^ 8*(x / 256)) ^^^ (x % 256):=by
  apply Nat.eq_of_testBit_eq;intro i;rw [Nat.testBit_or,Nat.testBit_xor];by_cases hi:i < 8
  ·have:(2 ^ 8*(x / 256)).testBit i=false:=by
    rw [Nat.testBit_two_pow_mul];simp;omega
   simp [this]
  ·have:(x % 256).testBit i=false:=Nat.testBit_lt_two_pow (aN (by omega:x % 256 < 2 ^ 8) (Nat.pow_le_pow_right (by decide) (by omega)))
   simp [this]
 rw [h2] at h;simpa [h1] using h
theorem W4 (x b:Nat):upd x b=mB (x ^^^ b):=by
 unfold upd mB
 conv=>rhs;rw [Jm x]
 have:=D4 (x / 256) 8;rw [Nat.xor_assoc,zu (256*(x / 256)),show 256*(x / 256)=2 ^ 8*(x / 256) from rfl,this]
def mU (x:Nat) (l:List UInt8):Nat:=l.foldl (λx b=>mB (x ^^^ b.toNat)) x
theorem b8 (b:UInt8):b.toNat < 4294967296:=by have:=b.toNat_lt;omega
theorem rL:∀(l:List UInt8) {x:Nat},x < 4294967296->mU x l < 4294967296
 | [],_,h=>h
 |b :: l,_,h=>rL l (D3 (Nat.xor_lt_two_pow (n:=32) h (b8 b)))
theorem BD (x:Nat) (a b:List UInt8):mU x (a++b)=mU (mU x a) b:=by simp [mU,List.foldl_append]
theorem Fa (x:Nat) (l:List UInt8) (k:Nat) (h:k < l.length):mU x (l.take (k+1))=mB (mU x (l.take k) ^^^ l[k].toNat):=by
 rw [ay h,BD];rfl
def Zq (n:Nat) (l:List UInt8):Nat:=mU (n ^^^ 4294967295) l ^^^ 4294967295
def m32 (s:Int):Nat:=(s % 4294967296).toNat
theorem Fb (s:Int):m32 s < 4294967296:=by unfold m32;omega
def Ia (s:Int) (l:List UInt8):Nat:=Zq (m32 s) l
def sumL (l:List UInt8):Nat:=Ia 0 l
theorem BE (h:n < 4294967296):n ^^^ 4294967295 < 4294967296:=Nat.xor_lt_two_pow (n:=32) h (by decide)
theorem moreL_lt (s:Int) (l:List UInt8):Ia s l < 4294967296:=BE (rL l (BE (Fb s)))
theorem Jn (h:X < 4294967296):bits .xor .u32 ((X:Int) / 2) (bits .and .u32 (X:Int) 1*3988292384 % 4294967296)=((tick X:Nat):Int):=by
 have h1:bits .and .u32 (X:Int) 1=((X % 2:Nat):Int):=by
  have:=u32_and_nat X 1 h (by decide);rw [Nat.and_one_is_mod] at this;exact this
 rw [h1];have h2:(((X % 2:Nat):Int)*3988292384) % 4294967296=((X % 2*3988292384:Nat):Int):=by omega
 rw [h2,show ((X:Int) / 2)=((X / 2:Nat):Int) from by omega];exact u32_xor_nat _ _ (by omega) (by omega)
theorem Mu (h:X < 4294967296) (hn:n < 256):bits .xor .u32 ((X:Int) / 256) ((mB n:Nat):Int)=((X / 256 ^^^ mB n:Nat):Int):=by
 rw [show ((X:Int) / 256)=((X / 256:Nat):Int) from by omega];exact u32_xor_nat _ _ (by omega) (D3 (by omega))
theorem zv (h:X < 4294967296):bits .xor .u32 4294967295 (X:Int)=((X ^^^ 4294967295:Nat):Int):=by
 have:=u32_xor_nat 4294967295 X (by decide) h;rw [Nat.xor_comm] at this;exact this
end Cr
namespace Cr
open Go.RowKit
theorem disable (w:World):(callFunc 443 #[]).run prog w=.ok (.value (.tuple #[])) w:=run_call_mark0 func443 (by kernel_rfl) (by kernel_rfl) (by kernel_rfl) .disable (by kernel_rfl) w
theorem enable (w:World):(callFunc 445 #[]).run prog w=.ok (.value (.tuple #[])) w:=run_call_mark0 func445 (by kernel_rfl) (by kernel_rfl) (by kernel_rfl) .enable (by kernel_rfl) w
theorem acquire (a:Addr) (w:World):(callFunc 446 #[.pointer (some a)]).run prog w=.ok (.value (.tuple #[])) w:=run_call_marked func446 (by kernel_rfl) (by kernel_rfl) (by kernel_rfl) .acquire (by kernel_rfl) a w
theorem releaseMerge (a:Addr) (w:World):(callFunc 448 #[.pointer (some a)]).run prog w=.ok (.value (.tuple #[])) w:=run_call_marked func448 (by kernel_rfl) (by kernel_rfl) (by kernel_rfl) .releaseMerge (by kernel_rfl) a w
theorem wK (a:Addr) (x:Value) (u:FrameMode) (w:World) (hc:w.cell? a=some x) (hz:w.frozen? a=false):
  CallsD prog 434 #[.pointer (some a),true] u w λe u' w'=>u'=u/\(e=.returned (.tuple #[])/\w'=w.drew.setCell a (.int .u32 1)):=by
 have yq:w.drew.cell? a=some x:=by go_simp
 have hz':w.drew.frozen? a=false:=by go_simp
 have hst:=run_call_store (P:=prog) func440 (by kernel_rfl) (by kernel_rfl) (by kernel_rfl) (by kernel_rfl) (k:=.u32) (y:=1) yq hz';go_enter_d func434,ntmps434;go_wp2;go_region_calls;all_goals (go_end0;exact ⟨rfl,rfl⟩)
theorem uw (a:Addr) (u:FrameMode) (w:World) (hc:w.cell? a=some (.int .i32 1)) (hz:w.frozen? a=false):
  CallsD prog 433 #[.pointer (some a)] u w λe u' w'=>u'=u/\(e=.returned (.tuple #[])/\w'=w.setCell a (.int .i32 0)):=by
 have hd:=disable;have he:=enable;have hr:=releaseMerge;have kL:=run_call_add (P:=prog) func449 (by kernel_rfl) (by kernel_rfl) (by kernel_rfl) .i32 (by kernel_rfl) (y:=-1) (s:=0) hc hz (by simp [go_sem];rfl);have VA:=run_convert_to_unsafe (P:=prog) (src:=515) (dst:=398) underlying515 underlying398 (by kernel_rfl) hc;go_enter_d func433,ntmps433;go_wp2;go_end0;go_wp2;go_end0;exact ⟨rfl,rfl⟩
theorem Jo (a:Addr) (w:World) (hc:w.cell? a=some (.int .i32 0)) (hz:w.frozen? a=false):
  Calls prog 432 #[.pointer (some a)] w λe w'=>e=.returned (.tuple #[])/\w'=w.setCell a (.int .i32 1):=by
 have hd:=disable;have he:=enable;have ha:=acquire;have agk:=run_call_cas_hit (P:=prog) func444 (by kernel_rfl) (by kernel_rfl) (by kernel_rfl) .i32 (by kernel_rfl) (y:=1) hc hz;have yq:(w.setCell a (.int .i32 1)).cell? a=some (.int .i32 1):=World.cell?_setCell_same w a _ hc;have VA:=run_convert_to_unsafe (P:=prog) (src:=515) (dst:=398) underlying515 underlying398 (by kernel_rfl) yq;go_enter func432,ntmps432;go_wp2;first|go_end0|(simp only [Exit.inBlock,Exit.then];refine bodyPost_ret (results_none rfl _ _ _) rfl ?_)|refine bodyPost_ret (results_none rfl _ _ _) rfl ?_
 go_wp2;go_end0;exact ⟨rfl,rfl⟩
def oF (d s:Int) (k i:Nat):Value:=
 if i=0 then .int .u32 d else if i=1 then .int .i32 s else if i=2 then .int .u32 0 else .int .u32 (if i < k+3 then ((mB (i - 3):Nat):Int) else 0)
def Tb (d s:Int) (k:Nat):Array Value:=Array.ofFn (n:=259) λi=>oF d s k i
theorem wL (d s:Int) (k i:Nat) (h:i < 259):(Tb d s k)[i]? =some (oF d s k i):=by simp [Tb,h]
theorem Fc {d s d' s':Int} {k k' i:Nat} {v:Value} (h:i < 259) (hv:v=oF d' s' k' i) (ho:∀j,j < 259->j≠i->oF d s k j=oF d' s' k' j):(Tb d s k).setIfInBounds i v=Tb d' s' k':=by
 have hsz:∀d s k,(Tb d s k).size=259:=λd s k=>by simp [Tb]
 apply cQ;intro j;rw [dD];by_cases e:i=j
 ·subst e
  rw [if_pos rfl,if_pos (by rw [hsz];exact h),wL _ _ _ _ h,hv]
 ·rw [if_neg e]
  rcases aD j 259 with hj|hj
  ·rw [wL _ _ _ _ hj,wL _ _ _ _ hj,ho j hj (λh=>e h.symm)]
  ·rw [ax (by rw [hsz];exact hj),ax (by rw [hsz];exact hj)]
theorem Ra (d s d':Int) (k:Nat):(Tb d s k).setIfInBounds 0 (.int .u32 d')=Tb d' s k:=Fc (by decide) (by simp [oF]) (λj _ hn=>by simp [oF,hn])
theorem Mv (d s s':Int) (k:Nat):(Tb d s k).setIfInBounds 1 (.int .i32 s')=Tb d s' k:=Fc (by decide) (by simp [oF]) (λj _ hn=>by simp [oF,hn])
theorem Rb (d s:Int) (k:Nat) (h:k < 256):(Tb d s k).setIfInBounds (3+k) (.int .u32 ((mB k:Nat):Int))=Tb d s (k+1):=
 Fc (by omega) (by simp [oF,show ¬ 3+k=1 from by omega,show ¬ 3+k=2 from by omega,show 3+k < k+1+3 from by omega,show 3+k - 3=k from by omega]) (λj _ hn=>by
  have e:(j < k+3)=(j < k+1+3):=by simp;omega
  unfold oF;simp only [e])
def qF (w:World) (b:Nat) (d s:Int) (k:Nat):Prop:=Blk w b 494 (Tb d s k)
section
variable {w w':World} {b:Nat} {d s:Int} {k:Nat}
theorem qF.c0 (h:qF w b d s k):w.cell? b=some (.int .u32 d):=by rw [Blk.cell h,wL _ _ _ _ (by decide)];rfl
theorem qF.c1 (h:qF w b d s k):w.cell? (Qc b 1)=some (.int .i32 s):=by rw [Blk.cell h,wL _ _ _ _ (by decide)];rfl
theorem qF.step (h:qF w b d s 256) {i:Nat} (hi:i < 256):w.cell? ⟨b,3+i,none⟩=some (.int .u32 ((mB i:Nat):Int)):=by
 rw [Blk.cell h,wL _ _ _ _ (by omega)];simp [oF,show ¬ 3+i=1 from by omega,show ¬ 3+i=2 from by omega,show 3+i < 256+3 from by omega,show 3+i - 3=i from by omega]
theorem qF.any (h:qF w b d s k) {i:Nat} (hi:i < 259):∃v,w.cell? (Qc b i)=some v:=⟨_,(Blk.cell h i).trans (wL _ _ _ _ hi)⟩
theorem qF.lt (h:qF w b d s k):b < w.heap.size:=Blk.lt h
theorem qF.fr (h:qF w b d s k) (i:Nat):w.frozen? ⟨b,i,none⟩=false:=Blk.frozen h i
theorem qF.set0 (h:qF w b d s k) (x:Int):qF (w.setCell b (.int .u32 x)) b x s k:=by have:=Blk.set_ h 0 (.int .u32 x);rwa [Ra] at this
theorem qF.set1 (h:qF w b d s k) (x:Int):qF (w.setCell (Qc b 1) (.int .i32 x)) b d x k:=by have:=Blk.set_ h 1 (.int .i32 x);rwa [Mv] at this
theorem qF.setS (h:qF w b d s k) (hk:k < 256):qF (w.setCell ⟨b,3+k,none⟩ (.int .u32 ((mB k:Nat):Int))) b d s (k+1):=by have:=Blk.set_ h (3+k) (.int .u32 ((mB k:Nat):Int));rwa [Rb _ _ _ hk] at this
end
theorem Mw (p b:Nat) (hpb:p≠b) (w:World) (hT:qF w b 0 1 0) (hp:w.cell? p=Qp b):
  Calls prog 424 #[Qp p] w λe w'=>e=.returned (.tuple #[])/\qF w' b 0 1 256/\w.grownBy w' (some b):=by
 have hpl:=eB hp;go_enter func424,ntmps424;go_wp2_with fail;go_loopw [3] (λi wr=>∃k:Nat,k<=256/\i=.int .i64 k/\qF wr b 0 1 k/\w.grownBy wr (some b)) (λi _=>256 - (intOf i).toNat)
 case atStart=>exact ⟨0,by omega,rfl,hT,dz _ _⟩
 case round=>
  obtain ⟨k,hk,rfl,hTk,hg⟩:=hrel;rcases aD k 256 with hlt|hge
  ·have hp':wr.cell? p=Qp b:=(hg.cell hp (by simpa using hpb))
   obtain ⟨v0,hv0⟩:=hTk.any (i:=3+k) (by omega);have hfr:=hTk.fr (3+k);have Ls:=dL hTk;have hG:=dL hg;obtain ⟨wo,hwo⟩:=dG wr;rw [<-hwo] at hp' hv0 hfr Ls hG ⊢;clear hTk hg hwo;go_wp2_with fail;go_loopw [2,8] (λx j wr=>∃m:Nat,m<=8/\j=.int .i64 m/\x=.int .u32 ((ticks m k:Nat):Int)/\wr=wo) (λ_ j _=>8 - (intOf j).toNat)
   case atStart=>exact ⟨0,by omega,rfl,rfl,rfl⟩
   case round=>
    obtain ⟨m,hm,rfl,rfl,rfl⟩:=hrel;have hX:=wJ (x:=k) (by omega) m;rcases aD m 8 with hml|Mc
    ·have nA:=dL (Jn hX)
     have hnext:tick (ticks m k)=ticks (m+1) k:=rfl;generalize ticks m k=X at*;have HN:=dL hnext;clear hnext;go_wp2_with fail;go_roundw
     case rel=>exact ⟨m+1,by omega,by go_num,by rw [nA.o,HN.o],trivial⟩
     case measure=>simp [intOf];omega
    ·obtain rfl:m=8:=by omega
     have HX:=dL hX;clear hX;go_wp2_with fail;exact ⟨⟨k+1,by omega,by go_num,Ls.o.setS hlt,dh hG.o (Or.inl rfl) _⟩,by simp [intOf];omega⟩
  ·obtain rfl:k=256:=by omega
   go_wp2_with fail;go_end0;exact ⟨rfl,hTk,hg⟩
end Cr
namespace Cr
open Go.RowKit
theorem BF (b:Nat) (d:Int) (r:Bool) (hr:(d != 0)=r) (w:World) (hc:w.cell? b=some (.int .u32 d)):
  Calls prog 426 #[Qp b] w λe w'=>e=.returned r/\w=w':=by
 subst hr;have hl:=run_call_load (P:=prog) func431 (by kernel_rfl) (by kernel_rfl) (by kernel_rfl) .u32 (by kernel_rfl) hc;go_enter func426,ntmps426;go_wp2_with fail;go_ret;exact ⟨rfl,rfl⟩
theorem Mx (p b:Nat) (hpb:p≠b) (w:World) (hT:qF w b 0 0 0) (hp:w.cell? p=Qp b):
  Calls prog 427 #[Qp b,.func (.func 424) #[] #[.pointer (some ⟨p,0,none⟩)]] w λe w'=>e=.returned (.tuple #[])/\qF w' b 1 0 256/\w.grownBy w' (some b):=by
 have hc1:=hT.c1;have Cp:=hT.fr 1;have hT1:=hT.set1 1;have hp1:(w.setCell (Qc b 1) (.int .i32 1)).cell? p=Qp b:=(World.cell?_setCell_other _ ⟨b,1,none⟩ ⟨p,0,none⟩ _ (λh=>hpb (by have:=congrArg Addr.block h;simpa using this.symm))).trans hp;have hg1:w.grownBy (w.setCell (Qc b 1) (.int .i32 1)) (some b):=dh (dz _ _) (Or.inl rfl) _;have hc0:=hT1.c0;have hnot:∀(x:Bool) (w:World),(Op.unary .not (.bool x)).run prog w=.ok (.bool (!x)) w:=λ_ _=>rfl
 have Q6:=dL hT1;have tq:=dL hg1;clear hT hT1 hg1;go_enter_defers func427,ntmps427;go_wp2_with fail;refine (Jo ⟨b,1,none⟩ _ hc1 Cp).mono ?_;rintro e w' ⟨rfl,rfl⟩;go_wp2_with fail;refine (BF b 0 false rfl _ hc0).mono ?_;rintro e w' ⟨rfl,rfl⟩;go_wp2_with fail;refine (Mw p b hpb _ Q6.o hp1).mono ?_;rintro e w2 ⟨rfl,Tx,hg2⟩;have hg2:=fJ tq.o hg2;go_wp2_with fail;have hT3:=qF.set0 (w:=w2.drew) (Blk.drew Tx) 1;have hc3:=Tx.c0;have XG:=Tx.fr 0;have hc4:=hT3.c1;have hf4:=hT3.fr 1;have hT5:=hT3.set1 0;have hg3:w.grownBy _ (some b):=dh (dh (kQ hg2) (p:=b) (Or.inl rfl) (.int .u32 1)) (p:=Qc b 1) (Or.inl rfl) (.int .i32 0);refine leaves_cons (f:=434) (args:=#[.pointer (some b),.bool true]) (by simp) (by simp [go_sem]) ?_;refine (wK ⟨b,0,none⟩ _ .returning _ hc3 XG).mono ?_;rintro e u' w'' ⟨rfl,rfl,rfl⟩;refine leaves_cons (f:=433) (args:=#[.pointer (some (Qc b 1))]) (by simp [settle]) (by simp [go_sem]) ?_;refine (uw ⟨b,1,none⟩ _ _ hc4 hf4).mono ?_;rintro e u' w'' ⟨rfl,rfl,rfl⟩;simp [Leaves,settle,results,results427];exact ⟨hT5,hg3⟩
theorem My (p b:Nat) (hpb:p≠b) (w:World) (hT:qF w b 0 0 0) (hp:w.cell? p=Qp b):
  Calls prog 423 #[Qp b,.func (.func 424) #[] #[.pointer (some ⟨p,0,none⟩)]] w λe w'=>e=.returned (.tuple #[])/\qF w' b 1 0 256/\w.grownBy w' (some b):=by
 have hnot:∀(x:Bool) (w:World),(Op.unary .not (.bool x)).run prog w=.ok (.bool (!x)) w:=λ_ _=>rfl
 go_enter func423,ntmps423;go_wp2_with fail;refine (BF b 0 false rfl _ hT.c0).mono ?_;rintro e w' ⟨rfl,rfl⟩;go_wp2_with fail;refine (Mx p b hpb _ hT hp).mono ?_;rintro e w2 ⟨rfl,Tx,hg2⟩;go_wp2_with fail;go_end0;exact ⟨rfl,Tx,hg2⟩
theorem Rc (f:Value) (b:Nat) (w:World) (hT:qF w b 1 0 256):
  Calls prog 423 #[Qp b,f] w λe w'=>e=.returned (.tuple #[])/\w=w':=by
 have hnot:∀(x:Bool) (w:World),(Op.unary .not (.bool x)).run prog w=.ok (.bool (!x)) w:=λ_ _=>rfl
 go_enter func423,ntmps423;go_wp2_with fail;refine (BF b 1 true rfl _ hT.c0).mono ?_;rintro e w' ⟨rfl,rfl⟩;go_wp2_with fail;go_end0;exact ⟨rfl,rfl⟩
def Made (w:World) (b:Nat):Prop:=qF w b 0 0 0\/qF w b 1 0 256
theorem Mz (b n:Nat) (hn:n < 256) (w:World) (hT:Made w b):
  Calls prog 418 #[Qp b,.int .u8 n] w λe w'=>e=.returned (.int .u32 ((mB n:Nat):Int))/\Made w' b/\w.grownBy w' (some b):=by
 have Z5:∀(fn:Fn) (first cap:Array Value) (w:World),(Instr.makeFunc fn first cap).run prog w=.ok (.func fn first cap) w:=λ_ _ _ _=>rfl
 have jW:b < w.heap.size:=by rcases hT with h|h <;> exact h.lt
 have hp:(w.alloc (.cells #[Qp b] 482)).cell? w=Qp b:=by simp
 have hg1:w.grownBy (w.alloc (.cells #[Qp b] 482)) (some b):=D2 (dz _ _) _;generalize hnew:w.alloc (.cells #[Qp b] 482)=w1 at*;have key:Calls prog 423 #[Qp b,.func (.func 424) #[] #[.pointer (some ⟨w.heap.size,0,none⟩)]] w1 λe w'=>e=.returned (.tuple #[])/\qF w' b 1 0 256/\w1.grownBy w' (some b):=by
  subst hnew;rcases hT with h|h
  ·exact My w b (by omega) _ (Blk.alloc h _) hp
  ·refine (Rc _ b _ (Blk.alloc h _)).mono ?_
   rintro e w2 ⟨rfl,rfl⟩;exact ⟨rfl,Blk.alloc h _,dz _ _⟩
 have tq:=dL hg1;clear hg1 hT;go_enter func418,ntmps418;go_wp2_with fail;refine key.mono ?_;rintro e w2 ⟨rfl,Tx,hg2⟩;have hp2:=hg2.cell hp (by simp;omega);have hs2:=Tx.step hn;go_wp2_with fail;go_ret;exact ⟨rfl,Or.inr Tx,fJ tq.o hg2⟩
end Cr
namespace Cr
open Go.RowKit
attribute [local go_sem] dR dO dS dP
theorem BG {n:Nat} (h:n < 4294967296):wrap64 (n:Int)=(n:Int):=by unfold wrap64;omega
theorem W6 (s:Int) (l:List UInt8) (hl:l.length<=9223372036854775807) (w:World):
  Calls prog 410 #[s,l] w (dM w (.int .i64 ((Ia s l:Nat):Int))):=by
 have hM:IntKind.u32.max=4294967295:=rfl;obtain ⟨zs,hzs,hz⟩:∃zs,zs=Tb 0 0 0/\∀w,(zeroValue 494).run prog w=.ok (.agg zs) w:=⟨_,rfl,λw=>by kernel_rfl⟩;have Z6:∀zs,zs=Tb 0 0 0->Made (w.alloc (.cells zs 494)) w.heap.size:=λzs h=>Or.inl (by rw [h];exact Blk.new w 494 _)
 have hb0:∀zs,Below w.heap.size w (w.alloc (.cells zs 494)):=λzs=>(aC _ w).alloc (aB _) _
 have hx0:bits .xor .u32 4294967295 (s % 4294967296)=((m32 s ^^^ 4294967295:Nat):Int):=by
  have:=zv (Fb s);rw [<-this];unfold m32;congr 1;omega
 have hX0:=BE (Fb s);have dy:mU (m32 s ^^^ 4294967295) l ^^^ 4294967295=Ia s l:=rfl;have hlt:=moreL_lt s l;generalize m32 s ^^^ 4294967295=X0 at*;have Q7:=dL hX0;have HF:=dL dy;have HL:=dL hlt;have HZ:=dL hx0;clear hX0 dy hlt hx0;have HT0:=dL Z6;have yM:=dL hb0;have Z7:=dL hzs;clear Z6 hb0 hzs;go_enter func410,ntmps410;go_wp2_with fail;rw [HZ.o];go_loopw [6,15] (λx i wr=>∃k:Nat,k<=l.length/\i=.int .i64 k/\x=.int .u32 ((mU X0 (l.take k):Nat):Int)/\Made wr w.heap.size/\Below w.heap.size w wr) (λ_ i _=>l.length - (intOf i).toNat)
 case atStart=>exact ⟨0,by omega,rfl,by simp [mU],HT0.o _ (by first|exact Z7.o|kernel_rfl),yM.o _⟩
 case round=>
  obtain ⟨k,hk,rfl,rfl,hM,hb⟩:=hrel;rcases aD k l.length with hlt|hge
  ·have hX:=rL (l.take k) Q7.o
   have FU:=Fa X0 l k hlt;have hby:=l[k].toNat_lt;rw [<-W4] at FU;generalize mU X0 (l.take k)=X at*;have hxb:X % 256 ^^^ l[k].toNat < 256:=Nat.xor_lt_two_pow (n:=8) (by omega) hby;have h1:bits .xor .u8 ((X:Int) % 256) ((l[k].toNat:Nat):Int)=((X % 256 ^^^ l[k].toNat:Nat):Int):=by
    rw [show ((X:Int) % 256)=((X % 256:Nat):Int) from by omega];exact u8_xor_nat _ _ (by omega) hby
   have h2:=Mu hX hxb;have H1:=dL h1;have H2:=dL h2;have H3:=dL FU;clear h1 h2 FU;go_wp2_with fail;rw [H1.o];refine (Mz _ _ hxb _ hM).mono ?_;rintro e w2 ⟨rfl,hM2,hg2⟩;have dY:=eY hb hg2 (aB _) hb.size;have HB:=dL dY;have HM:=dL hM2;clear dY hM2 hg2 hb hM;go_wp2_with fail;go_roundw
   case rel=>exact ⟨k+1,by omega,by go_num,by rw [H2.o,H3.o];rfl,HM.o,HB.o⟩
   case measure=>simp [intOf];omega
  ·obtain rfl:k=l.length:=by omega
   have HB:=dL hb;clear hb hM;rw [cD] at*;have hX:=rL l Q7.o;have h1:=zv hX;rw [HF.o] at h1;generalize mU X0 l=X at*;have H1:=dL h1;clear h1;have hlt:=HL.o;go_wp2_with fail;rw [H1.o,BG hlt];go_ret;exact ⟨rfl,HB.o⟩
theorem sum_c (l:List UInt8) (hl:l.length<=9223372036854775807) (w:World):
  Calls prog 389 #[l] w (dM w (.int .i64 ((sumL l:Nat):Int))):=by
 go_enter func389,ntmps389;go_wp2_with fail;refine (W6 0 l hl _).mono ?_;rintro e w1 ⟨rfl,dV⟩;go_wp2_with fail;go_ret;exact ⟨rfl,dV⟩
end Cr
section
open Go.RowKit
structure MapTy {K:Type} [DecidableEq K] (P:Program) (kv:K->Value) (mt kt et:TypeId) (z:Value):Prop where
 map_:P.underlying mt=some (.map kt et)
 zero:∀w,(zeroValue et).run P w=.ok z w
 eq:∀(a b:K) (w:World),(Op.equal kt (kv a) (kv b)).run P w=.ok (decide (a=b)) w
 check:∀(e:Bool) (a:K) (w:World),(Instr.checkKey e 10000 kt (kv a)).run P w=.ok () w
 wide:∃d,P.underlying kt=some d/\∀a b:K,Instr.sameNow d (kv a) (kv b)=none
 bits:∀a:K,Instr.sameBits 10000 (kv a) (kv a)=true
section
variable {K:Type} [DecidableEq K] {P:Program} {kv:K->Value} {mt kt et:TypeId} {z:Value}
def fq (kv:K->Value) (e:K×Value×Nat):MapEntry:={ key:=kv e.1,val:=e.2.1,born:=e.2.2 }
def place (ms:List (K×Value×Nat)) (k:K):Option (Nat×(K×Value×Nat)):=
 match ms with
 | []=>none
 |e :: r=>if k=e.1 then some (0,e) else (place r k).map λp=>(p.1+1,p.2)
def get (ms:List (K×Value×Nat)) (k:K):Option Value:=(place ms k).map (·.2.2.1)
variable {ms:List (K×Value×Nat)} {k:K} {i b:Nat}
theorem kz {e:K×Value×Nat} (h:place ms k=some (i,e)):ms[i]? =some e/\e.1=k:=by
 induction ms generalizing i with
 |nil=>cases h
 |cons a r ih=>
  unfold place at h;by_cases c:k=a.1
  ·rw [if_pos c] at h;cases h;exact ⟨rfl,c.symm⟩
  ·rw [if_neg c] at h
   cases hp:place r k with
   |none=>rw [hp] at h;cases h
   |some p=>
    rw [hp] at h;cases h;exact ih hp
theorem N0 (M:MapTy P kv mt kt et z) (k:K) (w:World):∀(ms:List (K×Value×Nat)) (i:Nat),
  (Instr.findAsking kt (kv k) (ms.map (fq kv)) i).run P w=.ok ((place ms k).map λp=>(i+p.1,p.2.2.1)) w
 | [],i=>rfl
 |e :: r,i=>by
  simp only [bB,Instr.findAsking,Sem.run_bind,fq,M.eq,Result.andThen_ok];unfold place;by_cases c:k=e.1
  ·simp [c]
  ·have ih:=N0 M k w r (i+1)
   simp only [c,decide_false,bp,if_false];refine Eq.trans ih ?_;cases place r k with
   |none=>rfl
   |some p=>simp;omega
theorem finding (M:MapTy P kv mt kt et z) (k:K) (w:World) (ms:List (K×Value×Nat)):
  (Instr.findKey kt (kv k) (ms.map (fq kv))).run P w=.ok ((place ms k).map λp=>(p.1,p.2.2.1)) w:=by
 obtain ⟨d,hd,hn⟩:=M.wide;have ha:=N0 M k w ms 0;simp only [aV] at ha;unfold Instr.findKey;simp only [Sem.run_bind,run_underlying hd,Result.andThen_ok];cases ms with
 |nil=>simp [Instr.findNow,place]
 |cons e r=>
  have:Instr.findNow d (kv k) ((e :: r).map (fq kv)) 0=none:=by simp [Instr.findNow,fq,hn]
  rw [this];exact ha
def MapF (kv:K->Value) (w:World) (b:Nat) (f:K->Option Value):Prop:=
 ∃(ms:List (K×Value×Nat)) (clock:Nat),w.heap[b]? =some (.map (ms.map (fq kv)).toArray clock)/\(ms.map (·.2.2)).Nodup/\(∀e∈ms,e.2.2 < clock)/\∀k,get ms k=f k
theorem MapF.new (w:World):MapF kv (w.alloc (.map #[] 0)) w (λ_=>none):=⟨[],0,heap_alloc_new w _,List.Pairwise.nil,by simp,λ_=>rfl⟩
variable {w w':World}
theorem MapF.lt {f:K->Option Value} (h:MapF kv w b f):b < w.heap.size:=by
 obtain ⟨ms,c,hb,_⟩:=h;rcases aD b w with hlt|hge
 ·exact hlt
 ·rw [ax hge] at hb;cases hb
theorem MapF.heap {f:K->Option Value} (h:MapF kv w b f) (hb:w'.heap[b]? =w.heap[b]?):MapF kv w' b f:=by
 obtain ⟨ms,c,h1,rest⟩:=h;exact ⟨ms,c,hb.trans h1,rest⟩
theorem MapF.below {f:K->Option Value} (h:MapF kv w b f) (hb:Below w w w'):MapF kv w' b f:=h.heap (hb.block b h.lt)
theorem MapF.look(M:MapTy P kv mt kt et z) {f:K->Option Value} (h:MapF kv w b f) (k:K):
  (Instr.lookup mt (.map (some b)) (kv k) false).run P w=.ok ((f k).getD z) w:=by
 obtain ⟨ms,c,hb,_,_,hf⟩:=h;have mS:=finding M k w ms;simp only [Instr.lookup,Sem.run_bind,run_underlying M.map_,Go.MapKept.run_getObj_map hb,Sem.run_pure,Result.andThen_ok,M.check,mS];rw [<-hf k];unfold get;cases place ms k with
 |none=>simp [M.zero]
 |some p=>simp
def setAt (ms:List (K×Value×Nat)) (i:Nat) (v:Value):List (K×Value×Nat):=ms.modify i λe=>(e.1,v,e.2.2)
theorem mV {e:K×Value×Nat} (h:place ms k=some (i,e)) (v:Value) (k':K):get (setAt ms i v) k'=if k'=k then some v else get ms k':=by
 induction ms generalizing i with
 |nil=>cases h
 |cons a r ih=>
  unfold place at h;by_cases c:k=a.1
  ·rw [if_pos c] at h;cases h
   simp only [setAt,List.modify_zero_cons,get,place];by_cases c':k'=k
   ·rw [if_pos c',if_pos (c'.trans c)];rfl
   ·rw [if_neg c',if_neg (λh=>c' (h.trans c.symm)),if_neg (λh=>c' (h.trans c.symm))]
  ·rw [if_neg c] at h
   cases hp:place r k with
   |none=>rw [hp] at h;cases h
   |some p=>
    rw [hp] at h;cases h;have:=ih hp;simp only [setAt,List.modify_succ_cons,get,place] at this ⊢;by_cases c':k'=a.1
    ·rw [if_pos c',if_pos c',if_neg (λh=>c (h.symm.trans c'))]
    ·rw [if_neg c',if_neg c']
     simpa [Option.map_map,Function.comp_def] using this
theorem l6 (h:place ms k=none) (v:Value) (n:Nat) (k':K):get (ms++[(k,v,n)]) k'=if k'=k then some v else get ms k':=by
 induction ms with
 |nil=>
  simp only [get,ak,place];by_cases c':k'=k <;> simp [c']
 |cons a r ih=>
  unfold place at h;by_cases c:k=a.1
  ·rw [if_pos c] at h;cases h
  ·rw [if_neg c] at h
   have hp:place r k=none:=by
    cases hp:place r k with
    |none=>rfl
    |some p=>rw [hp] at h;cases h
   have:=ih hp;simp only [get,bC,place] at this ⊢;by_cases c':k'=a.1
   ·rw [if_pos c',if_pos c',if_neg (λh=>c (h.symm.trans c'))]
   ·rw [if_neg c',if_neg c']
    simpa [Option.map_map,Function.comp_def] using this
omit [DecidableEq K] in
theorem BH (hn:(ms.map (·.2.2)).Nodup) {e:K×Value×Nat} (he:ms[i]? =some e):
  ((ms.map (fq kv)).toArray.findIdx? λx=>((x.born:Nat):Int) ==(e.2.2:Int))=some i:=by
 rw [List.findIdx?_toArray,au];obtain ⟨hi,rfl⟩:=cR.1 he;refine ⟨by simpa using hi,by simp [fq],λj hj=>?_⟩;have hj':j < ms.length:=by omega
 simp only [List.getElem_map,fq];intro hc;have yq:ms[j].2.2=ms[i].2.2:=by
  have h1:((ms[j].2.2:Nat):Int)=((ms[i].2.2:Nat):Int):=by simpa using hc
  exact Int.ofNat_inj.1 h1
 exact dF.1 hn j i (by simpa using hj') (by simpa using hi) hj (by simpa using yq)
theorem set_obj (o:Obj) {es:Array MapEntry} {c:Nat} (hb:w.heap[b]? =some (.map es c)):∃w',(setObj b o).run P w=.ok () w'/\w'.heap[b]? =some o/\w.grownBy w' (some b)/\w'.heap.size=w.heap.size:=
 ⟨_,Go.MapKept.run_setObj_map o hb,(Go.MapKept.heap_set hb).1,⟨rfl,rfl,rfl,by simp,λi _ hne=>(Go.MapKept.heap_set hb).2 i (λe=>hne (by rw [e]))⟩,by simp⟩
omit [DecidableEq K] in
theorem gY (ms:List (K×Value×Nat)) (i:Nat) (v:Value):(setAt ms i v).map (·.2.2)=ms.map (·.2.2):=by
 apply List.ext_getElem?;intro j;simp only [setAt,cL,List.getElem?_modify];by_cases c:i=j
 ·subst c;cases ms[i]? <;> simp
 ·cases ms[j]? <;> simp [c]
theorem jv {c:Nat} (hb:w.heap[b]? =some (.map (ms.map (fq kv)).toArray c)) (hnd:(ms.map (·.2.2)).Nodup) (hlt:∀e∈ms,e.2.2 < c) {e:K×Value×Nat} (hp:place ms k=some (i,e)) (mt:TypeId) (val:Value):
  ∃w2,(Instr.entryStore mt (.map (some b)) (.int .i64 (e.2.2:Nat)) val).run P w=.ok () w2/\MapF kv w2 b (λk'=>if k'=k then some val else get ms k')/\w.grownBy w2 (some b)/\w2.heap.size=w.heap.size:=by
 obtain ⟨hi,ML⟩:=kz hp;have hmod:((ms.map (fq kv)).toArray.modify i λx=>{ x with val:=val })=((setAt ms i val).map (fq kv)).toArray:=by
  apply cQ;intro j;simp only [setAt,cK,aO,cL,List.getElem?_modify];by_cases cj:i=j
  ·subst cj;simp [hi,fq]
  ·simp [cj]
 obtain ⟨w2,hr,dY,hg2,hs2⟩:=set_obj (P:=P) (.map ((setAt ms i val).map (fq kv)).toArray c) hb;have Q8:=BH (kv:=kv) hnd hi;refine ⟨w2,?_,⟨_,c,dY,by rw [gY];exact hnd,λx hx=>?_,λk'=>mV hp val k'⟩,hg2,hs2⟩
 ·simp only [Instr.entryStore,Sem.run_bind,Go.MapKept.run_getObj_map hb,Result.andThen_ok,asInt,asIntOf,Sem.run_pure,Q8,hmod,hr]
 ·have:x.2.2∈(setAt ms i val).map (·.2.2):=aU.2 ⟨x,hx,rfl⟩
  rw [gY] at this;obtain ⟨y,hy,e⟩:=aU.1 this;rw [<-e];exact hlt y hy
theorem qc (h:place ms k=none) (v:Value) (n:Nat):place (ms++[(k,v,n)]) k=some (ms.length,(k,v,n)):=by
 induction ms with
 |nil=>simp [place]
 |cons a r ih=>
  unfold place at h;by_cases c:k=a.1
  ·rw [if_pos c] at h;cases h
  ·rw [if_neg c] at h
   have hp:place r k=none:=by
    cases hp:place r k with
    |none=>rfl
    |some p=>rw [hp] at h;cases h
   simp only [bC,place];rw [if_neg c,ih hp];simp
theorem MapF.entry(M:MapTy P kv mt kt et z) {f:K->Option Value} (h:MapF kv w b f) (k:K):
  ∃w1 st,(Instr.mapEntry mt (.map (some b)) (kv k)).run P w=.ok (.tuple #[(f k).getD z,.int .i64 st]) w1/\MapF kv w1 b (λk'=>if k'=k then some ((f k).getD z) else f k')/\w.grownBy w1 (some b)/\w1.heap.size=w.heap.size/\
   ∀val,∃w2,(Instr.entryStore mt (.map (some b)) (.int .i64 st) val).run P w1=.ok () w2/\MapF kv w2 b (λk'=>if k'=k then some val else f k')/\w.grownBy w2 (some b)/\w2.heap.size=w.heap.size:=by
 obtain ⟨ms,c,hb,hnd,hlt,hf⟩:=h;have mS:=finding M k w ms;cases hp:place ms k with
 |some p=>
  obtain ⟨i,e⟩:=p;obtain ⟨hi,ML⟩:=kz hp;have iU:f k=some e.2.1:=by rw [<-hf k];unfold get;rw [hp];rfl
  have hsame:((ms.map (fq kv)).toArray.modify i λx=>{ x with key:=kv k })=(ms.map (fq kv)).toArray:=by
   apply cQ;intro j;rw [cK];by_cases cj:i=j
   ·subst cj
    simp [hi,fq,ML]
   ·simp [cj]
  obtain ⟨w1,hr,dV,hg1,hs1⟩:=set_obj (P:=P) (.map (ms.map (fq kv)).toArray c) hb;refine ⟨w1,e.2.2,?_,⟨ms,c,dV,hnd,hlt,λk'=>?_⟩,hg1,hs1,λval=>?_⟩
  ·simp only [Instr.mapEntry,Sem.run_bind,run_underlying M.map_,Go.MapKept.run_getObj_map hb,Result.andThen_ok,M.check,mS,hp,bI]
   have h1:((ms.map (fq kv)).toArray[i]?)=some (fq kv e):=by simp [hi]
   rw [h1];simp only [bI,bw];rw [show (fq kv e).key=kv k from by rw [<-ML];rfl];simp only [Instr.keyThatStays,M.bits,if_true,Sem.run_pure,Result.andThen_ok,hsame,hr,iU,goInt];rfl
  ·show get ms k'=if k'=k then some ((f k).getD z) else f k'
   by_cases ck:k'=k
   ·rw [if_pos ck,ck,hf k,iU];rfl
   ·rw [if_neg ck,hf k']
  ·obtain ⟨w2,h1,h2,h3,h4⟩:=jv (P:=P) (kv:=kv) dV hnd hlt hp mt val
   refine ⟨w2,h1,?_,fJ hg1 h3,h4.trans hs1⟩;have:(λk'=>if k'=k then some val else get ms k')=(λk'=>if k'=k then some val else f k'):=by funext k';rw [hf k']
   rw [<-this];exact h2
 |none=>
  have iU:f k=none:=by rw [<-hf k];unfold get;rw [hp];rfl
  have yN:((ms.map (fq kv)).toArray.push { key:=kv k,val:=z,born:=c })=((ms++[(k,z,c)]).map (fq kv)).toArray:=by simp [fq]
  obtain ⟨w1,hr,dV,hg1,hs1⟩:=set_obj (P:=P) (.map ((ms++[(k,z,c)]).map (fq kv)).toArray (c+1)) hb;have CN:((ms++[(k,z,c)]).map (·.2.2)).Nodup:=by
   rw [bQ];refine cE.2 ⟨hnd,by simp,?_⟩;intro a ha b hb';obtain ⟨x,hx,rfl⟩:=aU.1 ha;simp at hb';have:=hlt x hx;omega
  have CO:∀e∈ms++[(k,z,c)],e.2.2 < c+1:=by
   intro e he;rcases aq.1 he with h|h
   ·have:=hlt e h;omega
   ·simp at h;rw [h];exact Nat.lt_succ_self _
  refine ⟨w1,c,?_,⟨_,c+1,dV,CN,CO,λk'=>?_⟩,hg1,hs1,λval=>?_⟩
  ·simp only [Instr.mapEntry,Sem.run_bind,run_underlying M.map_,Go.MapKept.run_getObj_map hb,Result.andThen_ok,M.check,mS,hp,Option.map_none,M.zero,yN,hr,iU,Sem.run_pure,goInt,Option.getD_none]
  ·show get (ms++[(k,z,c)]) k'=if k'=k then some ((f k).getD z) else f k'
   rw [l6 hp,iU,hf k'];rfl
  ·obtain ⟨w2,h1,h2,h3,h4⟩:=jv (P:=P) (kv:=kv) dV CN CO (qc hp z c) mt val
   refine ⟨w2,h1,?_,fJ hg1 h3,h4.trans hs1⟩;have:(λk'=>if k'=k then some val else get (ms++[(k,z,c)]) k')=(λk'=>if k'=k then some val else f k'):=by
    funext k';rw [l6 hp,hf k'];by_cases ck:k'=k <;> simp [ck]
   rw [<-this];exact h2
end
end
namespace Pt
open Go.RowKit
attribute [local go_sem] dR dO dS dP
def tr (x n:Nat):Nat:=x / 2 ^ n ||| x*2 ^ (64 - n) % 18446744073709551616
theorem Zr (n:Nat) (h1:1<=n) (h2:n<=63):bits .and .u64 (IntKind.u64.wrap (-(n:Int))) 63=((64 - n:Nat):Int):=by
 have e:IntKind.u64.wrap (-(n:Int))=((18446744073709551616 - n:Nat):Int):=by rw [IntKind.wrap_u64];omega
 rw [e];have:=u64_and_nat (18446744073709551616 - n) 63 (by omega) (by decide);rw [show (63:Nat)=2 ^ 6 - 1 from rfl,Nat.and_two_pow_sub_one_eq_mod] at this;refine Eq.trans this ?_;omega
theorem Re (x n:Nat) (hx:x < 18446744073709551616) (hn:1<=n) (hn2:n<=63):bits .or .u64 (IntKind.u64.wrap ((x:Int)*2 ^ (64 - n))) ((x:Int) / 2 ^ (64 - (64 - n)))=((tr x n:Nat):Int):=by
 have e1:IntKind.u64.wrap ((x:Int)*2 ^ (64 - n))=((x*2 ^ (64 - n) % 18446744073709551616:Nat):Int):=by
  rw [IntKind.wrap_u64,Int.natCast_emod,Int.natCast_mul,Int.natCast_pow];rfl
 have e2:(x:Int) / 2 ^ (64 - (64 - n))=((x / 2 ^ n:Nat):Int):=by
  rw [show 64 - (64 - n)=n from by omega,Int.natCast_ediv,Int.natCast_pow];rfl
 rw [e1,e2,u64_or_nat _ _ (Nat.mod_lt _ (by decide)) (Nat.lt_of_le_of_lt (Nat.div_le_self _ _) hx)];unfold tr;rw [Nat.or_comm]
theorem W7 (x n:Nat) (hx:x < 18446744073709551616) (hn:1<=n) (hn2:n<=63) (w:World):
  Calls prog 363 #[.int .u64 x,n] w λe w'=>e=.returned (.int .u64 (tr x n:Nat))/\w=w':=by
 have h1:=Zr n hn hn2;have hm:(0:Int)<=((64 - n:Nat):Int):=by omega
 have hm2:((64 - n:Nat):Int)<=64:=by omega
 go_enter func363,ntmps363;go_wp2_with (first|(go_at_call 395;go_in))
 go_ret;exact ⟨by rw [<-Re x n hx hn hn2];rfl,rfl⟩
def qG (l:List UInt8):Nat:=l.foldl (λx b=>x*256 ||| b.toNat) 0
theorem zw (l:List UInt8) (k:Nat) (h:k < l.length):qG (l.take (k+1))=qG (l.take k)*256 ||| l[k].toNat:=by
 unfold qG;rw [ay h,List.foldl_append];rfl
theorem wM (X k:Nat) (b:UInt8) (h:X < 256 ^ k):X*256 ||| b.toNat < 256 ^ (k+1):=by
 have hb:=b.toNat_lt;have e:(256:Nat) ^ (k+1)=2 ^ (8*(k+1)):=by rw [show (256:Nat)=2 ^ 8 from rfl,<-Nat.pow_mul]
 have hp:1<=256 ^ k:=Nat.one_le_pow _ _ (by decide);rw [e];refine Nat.or_lt_two_pow ?_ ?_
 ·rw [<-e,Nat.pow_succ];exact Nat.mul_lt_mul_of_pos_right h (by decide)
 ·rw [<-e,Nat.pow_succ];omega
theorem Jp (X k:Nat) (b:UInt8) (hk:k < 8) (h:X < 256 ^ k):bits .or .u64 (IntKind.u64.wrap ((X:Int)*256)) (IntKind.u64.wrap (b.toNat:Int))=((X*256 ||| b.toNat:Nat):Int):=by
 have hb:=b.toNat_lt;have h7:256 ^ k<=256 ^ 7:=Nat.pow_le_pow_right (by decide) (by omega);have hX:X < 72057594037927936:=aN h h7;have e1:IntKind.u64.wrap ((X:Int)*256)=((X*256:Nat):Int):=by rw [IntKind.wrap_u64];omega
 have e2:IntKind.u64.wrap (b.toNat:Int)=((b.toNat:Nat):Int):=by rw [IntKind.wrap_u64];omega
 rw [e1,e2];exact u64_or_nat _ _ (by omega) (by omega)
theorem N4 (l:List UInt8) (hl:8<=l.length) (hm:l.length<=1000000) (w:World):
  Calls prog 394 #[l] w λe w'=>e=.returned (.int .u64 (qG (l.take 8):Nat))/\w=w':=by
 go_enter func394,ntmps394;go_wp2_with fail;go_loopw [3,5] (λx i wr=>∃k:Nat,k<=8/\i=.int .i64 k/\x=.int .u64 ((qG (l.take k):Nat):Int)/\qG (l.take k) < 256 ^ k/\wr=w) (λ_ i _=>8 - (intOf i).toNat)
 case atStart=>exact ⟨0,by omega,rfl,by simp [qG],by simp [qG],rfl⟩
 case round=>
  obtain ⟨k,hk,rfl,rfl,hlt,rfl⟩:=hrel;rcases aD k 8 with h8|h8
  ·have hkl:k < l.length:=by omega
   have hs:=zw l k hkl;have hb:=wM (qG (l.take k)) k l[k] hlt;have hc:=Jp (qG (l.take k)) k l[k] h8 hlt;generalize qG (l.take k)=X at*;have HS:=dL hs;have HB:=dL hb;have HC:=dL hc;clear hs hb hc;go_wp2_with fail;exact ⟨⟨k+1,by omega,by go_num,by rw [HC.o,HS.o],by rw [HS.o];exact HB.o,trivial⟩,by simp [intOf];omega⟩
  ·obtain rfl:k=8:=by omega
   go_wp2_with fail;go_ret;exact ⟨rfl,rfl⟩
end Pt
end Go.Proofs.YtgdaahffmcfhpaaGreatDoor
