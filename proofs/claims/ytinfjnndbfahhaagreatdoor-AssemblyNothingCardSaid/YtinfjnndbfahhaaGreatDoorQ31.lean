import Derived.Test.YtinfjnndbfahhaaGreatDoorQ30
import Derived.Deep.Slices
import Derived.SliceStrings
import Derived.ChangeArms
import Derived.SizedLaws
namespace Go.Proofs.YtinfjnndbfahhaaGreatDoor
open Go.RowKit Go.Maps Go.ChangeShapes
set_option linter.unusedVariables false
set_option maxRecDepth 100000
set_option maxHeartbeats 4000000
theorem zIb {s:ByteArray}{c:Ct}(h:parseC s=some c):c.id.size<=100000/\c.inner.length<=10000:=by
 obtain⟨f,-⟩:=zBL h;have g:c∈c.walk:=by
  obtain⟨k,i,l,o,t,e,n⟩:=c;simp[Ct.walk]
 exact⟨(f.small c g).1,Nat.le_trans (zC7 g) f.count⟩
theorem zGe {s:ByteArray}{c:Ct}(h:parseC s=some c)(u:c.kind=2\/c.kind=4):1<=c.slot/\c.slot<=16:=by
 obtain⟨v,-⟩:=zBL h;have o:=v.good;obtain⟨k,i,l,f,t,e,n⟩:=c;rw[Ct.good,Bool.and_eq_true]at o;have q:=o.1;have g:k=2\/k=4:=u;rcases g with rfl | rfl
 ·simp[alike,zAH]at q;show 1<=f/\f<=16
  omega
 ·simp[alike,zAH]at q;show 1<=f/\f<=16
  omega
theorem zDB {s:ByteArray}{c:Ct}(h:parseC s=some c)(q:c.kind=2\/c.kind=3\/c.kind=4):c.inner.length<=16:=by
 obtain⟨u,-⟩:=zBL h;have o:=u.good;obtain⟨k,i,l,v,t,e,n⟩:=c;rw[Ct.good,Bool.and_eq_true]at o;have f:=o.1;have g:k=2\/k=3\/k=4:=q;show n.length<=16
 rcases g with rfl | rfl | rfl
 ·simp[alike]at f;omega
 ·simp[alike]at f;omega
 ·simp[alike,someIn]at f;omega
structure OneM (m:Mem)(o:ByteArray):Prop where
 p:m.p=o
 i:m.i.size<=100000
 l:m.l.length<=16
 s:0<=m.s/\m.s<=16
theorem zK4 {k:Int}{g:ByteArray->Int->Ct->Mem}(f:∀ p rd c,parseC c.txt=some c->c.kind=k->OneM (g p rd c) p){p:ByteArray}{rd:Int}{s:ByteArray}{m:Mem}(h:ofK k g p rd s=some m):OneM m p:=by
 unfold ofK at h;cases hc:parseC s with
 | none=>rw[hc]at h;cases h
 | some c=>
  rw[hc]at h;simp only at h;split at h
  ·rename_i o;cases h;have:=(zBL hc).2;exact f p rd c (by rw[this];exact hc) o
  ·cases h
theorem zII (p:ByteArray)(rd:Int)(c:Ct)(h:parseC c.txt=some c)(f:c.kind=2):OneM (mk2 p rd c) p:=by
 have g:=zIb h;have o:=zGe h (.inl f);exact⟨rfl,g.1,by show (c.inner.map Ct.txt).length<=16;rw[List.length_map];exact zDB h (by simp[f]),by show 0<=c.slot/\c.slot<=16;omega⟩
theorem zIH (p:ByteArray)(rd:Int)(c:Ct)(h:parseC c.txt=some c)(f:c.kind=3):OneM (mk3 p rd c) p:=by
 have g:=zIb h;exact⟨rfl,g.1,by show (c.inner.map Ct.txt).length<=16;rw[List.length_map];exact zDB h (by simp[f]),by show (0:Int)<=0/\(0:Int)<=16;omega⟩
theorem zFf (p:ByteArray)(rd:Int)(c:Ct)(h:parseC c.txt=some c)(f:c.kind=4):OneM (mk4 p rd c) p:=by
 have g:=zIb h;have o:=zGe h (.inr f);exact⟨rfl,g.1,by show (c.inner.map Ct.txt).length<=16;rw[List.length_map];exact zDB h (by simp[f]),by show 0<=c.slot/\c.slot<=16;omega⟩
theorem zGN {k:Int}{q:ByteArray->Int->Ct->Mem}(g:∀ p rd c,parseC c.txt=some c->c.kind=k->OneM (q p rd c) p){tx:Dev->ByteArray}{S:List Src}{L:List Mem}(h:L.map Mem.k=S.filterMap (fun s=>ofK k q s.o s.r (tx s.d))):
  L.length<=S.length/\∀ m∈L,∃ s∈S,OneM m s.o:=by
 refine⟨?_,fun m v=>?_⟩
 ·have:=congrArg List.length h;rw[List.length_map]at this;rw[this];exact List.length_filterMap_le _ _
 ·have u:m.k∈L.map Mem.k:=List.mem_map_of_mem v;rw[h]at u;obtain⟨s,y,z⟩:=List.mem_filterMap.1 u;have f:=zK4 g z;exact⟨s,y,⟨f.p,f.i,f.l,f.s⟩⟩
theorem zAe {k:Int}{y:ByteArray->Int->Ct->Mem}(v:∀ p rd c,parseC c.txt=some c->c.kind=k->OneM (y p rd c) p){tx:Dev->ByteArray}{S:List Src}{L:List Mem}(h:L.map Mem.k=S.filterMap (fun s=>ofK k y s.o s.r (tx s.d)))(A:S.length<=1000)(z:∀ s∈S,s.o.size<=1000000):MemSmall2 L:=by
 obtain⟨C,q⟩:=zGN v h;refine⟨by omega,fun m f=>?_,fun m f=>?_,fun m f=>?_,fun m f=>?_⟩
 ·obtain⟨s,u,g⟩:=q m f;rw[g.p];exact z s u
 ·obtain⟨s,u,g⟩:=q m f;have:=g.i;omega
 ·obtain⟨s,u,g⟩:=q m f;have:=g.l;omega
 ·obtain⟨s,u,g⟩:=q m f;have:=g.s;exact WalkArith.wf_i64 (by omega)
theorem zDl {k:Int}{q:ByteArray->Int->Ct->Mem}(g:∀ p rd c,parseC c.txt=some c->c.kind=k->OneM (q p rd c) p){tx:Dev->ByteArray}{S:List Src}{L:List Mem}(h:L.map Mem.k=S.filterMap (fun s=>ofK k q s.o s.r (tx s.d)))(u:S.length<=1000)(v:∀ s∈S,s.o.size<=1000000):MemSmall L:=
 have f:=zAe g h u v
 ⟨f.len,f.p,f.i,f.l⟩
theorem zGq {f:Mem->Bool}{L:List Mem}{g:List ByteArray}{O:List ArrM}{m:ArrM}(h:IsIds2 (zo f L) g)(u:O.map ArrM.toArr=g.map (buildA (zo f L)))(v:m∈O)(y:∀ x∈L,x.i.size<=1000000):m.i.size<=1000000:=by
 have q:m.toArr∈O.map ArrM.toArr:=List.mem_map_of_mem v;rw[u]at q;obtain⟨o,z,A⟩:=List.mem_map.1 q;have C:m.i=o:=by rw[<-A];rfl
 obtain⟨s,D⟩:=(h.mem o).1 z;obtain⟨x,F⟩:=Option.isSome_iff_exists.1 D;obtain⟨I,-,J⟩:=zCB L _ _ F;have N:x.i=o:=congrArg Prod.fst J;rw[C,<-N];exact y x I
theorem zEx {L:List Mem}{f K:List ByteArray}{r:Int}{v:Vir}(g:IsIds L f)(u:v∈(opened f K).map (virOf L r))(y:∀ x∈L,x.i.size<=1000000):v.q.size=0/\v.o.size<=1000005:=by
 obtain⟨x,z,rfl⟩:=List.mem_map.1 u;have A:x∈f:=(List.mem_filter.1 z).1;obtain⟨m,C⟩:=Option.isSome_iff_exists.1 ((g.mem x).1 A);obtain⟨D,-,F⟩:=zCi L _ _ C;have I:m.i=x:=zCL (l:=[m.i]) (l':=[x]) (by simp[F]) |> fun h=>by injection h
 have J:=y m D;rw[I]at J;refine⟨rfl,?_⟩;show (openT++x).size<=_
 rw[ByteArray.size_append];show 5+x.size<=_
 omega
theorem zHI {k:Int}{g:ByteArray->Int->Ct->Mem}(f:∀ p rd c,parseC c.txt=some c->c.kind=k->OneM (g p rd c) p){tx:Dev->ByteArray}{S:List Src}{L:List Mem}(h:L.map Mem.k=S.filterMap (fun s=>ofK k g s.o s.r (tx s.d))):∀ m∈L,m.l.length<=16:=fun m q=>by
 obtain⟨s,v,u⟩:=(zGN f h).2 m q;exact u.l
theorem zFn {f:Mem->Bool}{L:List Mem}(h:∀ x∈L,x.l.length<=16)(g:ByteArray):(zAW (zo f L) g).l.length<=16:=by
 unfold zAW;cases hq:zo f L (g,zAz (zo f L) g)with
 | none=>simp[Mem.zero]
 | some m=>exact h m (zCB L _ _ hq).1
theorem zI0 {f:Mem->Bool}{L:List Mem}{g:List ByteArray}{O:List ArrM}{m:ArrM}(q:O.map ArrM.toArr=g.map (buildA (zo f L)))(u:m∈O)(v:∀ x∈L,x.l.length<=16):m.l.length<=16:=by
 have h:m.toArr∈O.map ArrM.toArr:=List.mem_map_of_mem u;rw[q]at h;obtain⟨o,A,y⟩:=List.mem_map.1 h;have z:m.l=(zAW (zo f L) o).l:=by rw[<-y];rfl
 rw[z];exact zFn v o
def Wt {H:Type}(t:TypeId)(d:DataW H):Prop:=∀ n∈d.weights Tryz.prog t,n<=reachBytes
theorem wt_each {H:Type}{f:List TypeId}{ds:List (DataW H)}(h:(DataW.weightsEach Tryz.prog f ds).all (·<=reachBytes)=true){j:Nat}{t:TypeId}{d:DataW H}(g:f[j]?=some t)(o:ds[j]?=some d):Wt t d:=fun n q=>by
 have:=List.all_eq_true.1 h n (DataW.weights_mem_each g o n q)
 simpa using this
section
variable {H:Type}{enc:TypeId×Value->H}{w:World}{base:Nat}{spare:Nat->Bool}{held:Bool}
end
section
variable {H:Type}{enc:TypeId×Value->H}{w:World}{base:Nat}{spare:Nat->Bool}{held:Bool}
end
theorem zG4 (a:Option Addr)(f:Nat)(l:List ByteArray)(s:ByteArray)(w:World)(z:Strs w a f l):
  Calls Tryz.prog 47 #[.slice a l.length f,.string s] w fun e w'=>IdxS l s e/\Fr No w w':=by
 have J:=z.lenmax
 go_enter Tryz.func47,Tryz.ntmps47
 go_wp2_with fail
 go_loop [8] (fun i=>∃ k:Nat,k<=l.length/\i=.int .i64 k/\Hid (∀ x∈l.take k,(x.toList==s.toList)=false)) (fun i=>l.length-(intOf i).toNat)
 case atStart=>exact⟨0,by omega,rfl,by unfold Hid;simp⟩
 case round=>
  obtain⟨k,L,rfl,g⟩:=hrel;by_cases q:k<l.length
  ·have A:(k:Int)<l.length:=by omega
   obtain⟨b,I,x,rfl,C,N⟩:=z.at q;have D:=zh C;clear C;rcases he:(s.toList==x.toList)with _ | _
   ·have o:(x.toList==s.toList)=false:=by rw[Bool.beq_comm];exact he
    have u:=zh o;clear o
    go_wp2_with fail
    go_round
    case rel=>
     refine⟨k+1,by omega,by go_num,?_⟩;unfold Hid;intro y F;rw[List.take_add_one,D.out]at F;rcases List.mem_append.1 F with h | h
     ·exact g.out y h
     ·simp at h;subst h;exact u.out
    case measure=>simp[intOf];omega
   ·have v:Hid (hasS l s=true):=zLG D.out (by rw[Bool.beq_comm];exact he)
    go_wp2_with fail
    go_ret;exact⟨⟨k,rfl,by rw[v.out];simp⟩,Fr.refl _ _⟩
  ·obtain rfl:k=l.length:=by omega
   have h:=g.out;rw[List.take_of_length_le (by omega)]at h;have v:Hid (hasS l s=false):=zLF h
   go_wp2_with fail
   go_ret;exact⟨⟨-1,rfl,by rw[v.out];rfl⟩,Fr.refl _ _⟩
theorem zD6 (a:Option Addr)(f:Nat)(l:List ByteArray)(s:ByteArray)(w:World)(o:Strs w a f l):
  Calls Tryz.prog 45 #[.slice a l.length f,.string s] w fun e w'=>e=.returned (.bool (hasS l s))/\Fr No w w':=by
 go_enter Tryz.func45,Tryz.ntmps45
 go_wp2_with fail
 refine(zG4 a f l s _ o).mono ?_;rintro e u ⟨⟨i,rfl,h⟩,g⟩;have q:=zh h;clear h
 go_wp2_with fail
 go_ret;exact⟨zK q.out,g⟩
def lvT (id:ByteArray)(k:Int):ByteArray:=(⟨#[108,118,45]⟩:ByteArray)++id++(⟨#[45]⟩:ByteArray)++(⟨(Lib.itoa k).toArray⟩:ByteArray)
def lvOk (id:ByteArray)(k:Int):Bool:=decide (1<=k)&&decide (k<=16)&&isName (lvT id k)
theorem zJe (f:ByteArray)(k:Int):(lvT f k).size=f.size+4+(Lib.itoa k).length:=by
 unfold lvT;rw[ByteArray.size_append,ByteArray.size_append,ByteArray.size_append];show 3+f.size+1+(Lib.itoa k).toArray.size=_
 simp;omega
theorem zLg (f:ByteArray)(k:Int)(w:World)(Y:Env w)(Z:f.size<=1000000)(hk:(Lit.int .i64 k).wf=true):
  Calls Tryz.prog 167 #[.string f,.int .i64 k] w fun e w'=>e=.returned (.tuple #[.string (if lvOk f k=true then lvT f k else ⟨#[]⟩),.int .i64 (if lvOk f k=true then 0 else 340)])/\Fr No w w':=by
 have o:-9223372036854775808<=k/\k<=9223372036854775807:=by simp[Lit.wf,IntKind.min,IntKind.max,IntKind.signed,IntKind.bits]at hk;omega
 have I:=Lib.itoa_length_le k o.1 o.2;have y:=zJe f k;have h1:((⟨#[108,118,45]⟩:ByteArray)++f).size<=9223372036854775807:=by rw[ByteArray.size_append];show 3+f.size<=_;omega
 have h2:((⟨#[108,118,45]⟩:ByteArray)++f++(⟨#[45]⟩:ByteArray)).size<=9223372036854775807:=by rw[ByteArray.size_append,ByteArray.size_append];show 3+f.size+1<=_;omega
 obtain⟨h,q⟩:∃ h,h=(⟨(Lib.itoa k).toArray⟩:ByteArray):=⟨_,rfl⟩
 have J:lvT f k=(⟨#[108,118,45]⟩:ByteArray)++f++(⟨#[45]⟩:ByteArray)++h:=by rw[q];rfl
 have h3:((⟨#[108,118,45]⟩:ByteArray)++f++(⟨#[45]⟩:ByteArray)++h).size<=9223372036854775807:=by rw[<-J,y];omega
 have h4:((⟨#[108,118,45]⟩:ByteArray)++f++(⟨#[45]⟩:ByteArray)++h).size<=maxLen:=by unfold maxLen;rw[<-J,y];omega
 have X:h.size<=21:=by rw[q];simpa [ByteArray.size]using I
 have a2:¬ 9223372036854775807<3+f.size+1+h.size:=by omega
 have a3:¬ 9223372036854775807<((⟨#[108,118,45]⟩:ByteArray)++f++(⟨#[45]⟩:ByteArray)).size+h.size:=by rw[<-ByteArray.size_append];omega
 have a4:((⟨#[108,118,45]⟩:ByteArray)++f++(⟨#[45]⟩:ByteArray)).size+h.size<=9223372036854775807:=by omega
 obtain⟨C,z⟩:∃ C,C=lvOk f k:=⟨_,rfl⟩
 rw[<-z,J];have A:=zh z;have HL:=zh J;have L:(⟨(Lib.itoa k).toArray⟩:ByteArray)=h:=q.symm;clear z J y I q
 go_enter Tryz.func167,Tryz.ntmps167
 go_wp2_with fail
 refine(Tryz.strconv_Itoa k o.1 o.2 _ Y.tab).mono ?_;rintro e w1 ⟨rfl,U,V,rfl⟩;have g:Fr No w (Go.Sort.grow (w.drewN U) V):=Fr.of_below_size (Lib.below_grow _ w (Nat.le_refl _) U V);generalize Go.Sort.grow (w.drewN U) V=w1 at *;rw[L];by_cases N:1<=k
 ·by_cases O:k<=16
  ·go_wp2_with fail
   refine(zAL _ _ h4).mono ?_;rintro e w2 ⟨rfl,R⟩;have u:=g.step R zi;have D:C=isName ((⟨#[108,118,45]⟩:ByteArray)++f++(⟨#[45]⟩:ByteArray)++h):=by rw[A.out,<-HL.out];unfold lvOk;simp[N,O]
   rw[<-D];have F:=zh u;clear g R u D;cases C
   ·go_wp2_with fail
    refine bodyPost_ret (v:=.tuple #[.string ⟨#[]⟩,.int .i64 340]) (by simp[results,Tryz.results167,go_sem]) rfl ?_;exact⟨by simp,F.out⟩
   ·go_wp2_with fail
    refine bodyPost_ret (v:=.tuple #[.string ((⟨#[108,118,45]⟩:ByteArray)++f++(⟨#[45]⟩:ByteArray)++h),.int .i64 0]) (by simp[results,Tryz.results167,go_sem]) rfl ?_;exact⟨by simp,F.out⟩
  ·have D:C=false:=by rw[A.out];unfold lvOk;simp[O]
   subst D;have F:=zh g;clear g
   go_wp2_with fail
   refine bodyPost_ret (v:=.tuple #[.string ⟨#[]⟩,.int .i64 340]) (by simp[results,Tryz.results167,go_sem]) rfl ?_;exact⟨by simp,F.out⟩
 ·have D:C=false:=by rw[A.out];unfold lvOk;simp[N]
  subst D;have F:=zh g;clear g
  go_wp2_with fail
  refine bodyPost_ret (v:=.tuple #[.string ⟨#[]⟩,.int .i64 340]) (by simp[results,Tryz.results167,go_sem]) rfl ?_;exact⟨by simp,F.out⟩
def wantAt (gi:ByteArray)(ins:List ByteArray)(r:Int)(i:Nat):Vir:=⟨⟨#[]⟩,lvT gi ((i:Int)+1),ins[i]?.getD ⟨#[]⟩,r⟩
def wantF (gi:ByteArray)(ins:List ByteArray)(r:Int)(k:Nat):List Vir:=((List.range k).filter fun i:Nat=>lvOk gi ((i:Int)+1)).map (wantAt gi ins r)
theorem zDf (g:ByteArray)(f:List ByteArray)(r:Int)(k:Nat):wantF g f r (k+1)=wantF g f r k++(if lvOk g ((k:Int)+1)=true then [wantAt g f r k]else []):=by
 unfold wantF;rw[List.range_succ,List.filter_append,List.map_append];cases h:lvOk g ((k:Int)+1)<;>simp[h]
theorem zHe (g:ByteArray)(f:List ByteArray)(r:Int)(k:Nat):(wantF g f r k).length<=k:=by
 unfold wantF;rw[List.length_map];exact Nat.le_trans (List.length_filter_le _ _) (by simp)
def wantL (gi:ByteArray)(t n:Int)(ins:List ByteArray)(r:Int):List Vir:=if n=t then wantF gi ins r ins.length else []
theorem zKe (z:ByteArray)(t e n rd:Int)(pa:Option Addr)(pn pc:Nat)(Z:Option Addr)(lc:Nat)(f:List ByteArray)(w:World)(hE:Env w)(a7:z.size<=1000000)(hS:Strs w Z lc f)(c3:f.length<=1000000):
  Calls Tryz.prog 114 #[.agg #[.string z,.slice pa pn pc,.int .i64 t,.int .i64 e,.int .i64 n,.slice Z f.length lc],.int .i64 rd] w fun en w'=>(∃ a' c' V,en=.returned (.slice a' (V:List Vir).length c')/\Virs w' a' c' V/\V=wantL z t n f rd/\∀ O,a'=some O->w.heap.size<=O.block)/\Fr No w w':=by
 obtain⟨i0,a8,a9,b0,b1⟩:=info_parts infoV;have hx:Fr No w (w.alloc (.cells #[.string z,.slice pa pn pc,.int .i64 t,.int .i64 e,.int .i64 n,.slice Z f.length lc] 176)):=(Fr.refl _ _).alloc _;have q0:=zD w (.cells #[.string z,.slice pa pn pc,.int .i64 t,.int .i64 e,.int .i64 n,.slice Z f.length lc] 176);have hm:=hS.lenmax;have R:=hS.no hx (fun _=>id);have a2:=hE.no hx;have b2:=zC q0;obtain⟨U,X⟩:∃ U,U=w.alloc (.cells #[.string z,.slice pa pn pc,.int .i64 t,.int .i64 e,.int .i64 n,.slice Z f.length lc] 176):=⟨_,rfl⟩
 rw[<-X]at hx q0 R a2 b2;obtain⟨x0,-,x2,-,x4,x5⟩:=cl6 q0;have Hx:=zh hx;clear hx hS hE
 go_enter Tryz.func114,Tryz.ntmps114
 go_upto_region 1 with(fail)
 rw[<-X];clear X;by_cases F:n=t
 ·subst F
  go_wp2_with fail
  go_loopw [5,18] (fun u i wr=>∃ (j:Nat) (V:List Vir) (av:Option Addr) (cv:Nat),j<=f.length/\V.length<=j/\u=.slice av V.length cv/\i=.int .i64 (j:Int)/\wr.ownsRow U.heap.size 94 4 (.slice av V.length cv) V.length (vflat V)/\Hid (V=wantF z f rd j)/\Fr (From U.heap.size) U wr) (fun _ i _=>f.length-(intOf i).toNat)
  case atStart=>exact⟨0,[],none,0,by omega,by simp,rfl,rfl,World.ownsRow_nil _ _ _ _,by unfold Hid wantF;simp,Fr.refl _ _⟩
  case round=>
   obtain⟨j,V,av,cv,hj,c4,rfl,rfl,g,HV,D⟩:=hrel;have b9:V.length<=1000000:=by omega
   by_cases b3:j<f.length
   ·have c2:(j:Int)<f.length:=by omega
    obtain⟨b,c5,x,rfl,a3,hc⟩:=(R.fr D (fun O e b4=>by have:=(R.cell O e b4).2.1;unfold From;omega)).at b3;have y0:wr.cell? ⟨w.heap.size,0,none⟩=some (.string z):=D.cell x0 (by show ¬ From U.heap.size w.heap.size;unfold From;omega);have o:=zLg z ((j:Int)+1) wr (a2.no (D.mono (fun b hb h=>by unfold From at h;omega))) a7 (WalkArith.wf_i64 (by omega));have b5:=zh a3;have c6:=D.size;clear a3;rcases hok:lvOk z ((j:Int)+1)with _ | _
    ·rw[hok]at o;simp only[Bool.false_eq_true,if_false]at o;have I:Hid (V=wantF z f rd (j+1)):=by unfold Hid;rw[zDf,hok];simpa using HV.out
     clear hok
     go_wp2_with fail
     refine o.mono ?_;rintro en w1 ⟨rfl,q⟩;have H:=zh (And.intro (zG g q zi) (D.step q zn));clear g D q o HV
     go_wp2_with fail
     go_roundw
     case rel=>exact⟨j+1,V,av,cv,by omega,by omega,rfl,by go_num,H.out.1,I,H.out.2⟩
     case measure=>simp[intOf];omega
    ·rw[hok]at o;simp only[if_true]at o;have I:Hid (wantF z f rd (j+1)=V++[⟨⟨#[]⟩,lvT z ((j:Int)+1),x,rd⟩]):=by
      unfold Hid;rw[zDf,hok,<-HV.out,if_pos rfl];unfold wantAt;rw[b5.out];rfl
     clear hok
     go_wp2_with fail
     refine o.mono ?_;rintro en w1 ⟨rfl,q⟩;have v:=zG g q zi;have J:=D.step q zn;have c7:=q.size;have Y:=zh v;have a4:=zh J;obtain⟨nm,L⟩:∃ nm,nm=lvT z ((j:Int)+1):=⟨_,rfl⟩
     rw[<-L]at I ⊢;clear g D q o HV J L
     go_wp2_with (at_builtin;refine wpList_append_own _ rfl _ _ 50 rfl U.heap.size 94 i0 (.agg #[.string ByteArray.empty,.string ByteArray.empty,.string ByteArray.empty,.int .i64 0]) 4 56 Tryz.underlying50 a8 a9 b0 b1 rfl (by decide) _ _ _ rfl (v.alloc _) ⟨w1.heap.size,0,none⟩ 1 1 (Vir.vals ⟨⟨#[]⟩,nm,x,rd⟩).toList rfl rfl (ze _ (Vir.vals ⟨⟨#[]⟩,nm,x,rd⟩) _ rfl) (zBr _) (by unfold maxLen;omega) (by omega) (by first | omega | (simp;done) | (simp;omega)) ?_;intro v' w6 y A _;obtain⟨b6,b7,rfl⟩:=zJ y)
     have a5:Fr (fun b=>(Value.slice av V.length cv).ownBlock=some b) (w1.alloc (.cells (Vir.vals ⟨⟨#[]⟩,nm,x,rd⟩) 94)) w6:=Fr.of_grown A;have a6:Fr No w1 (w1.alloc (.cells (Vir.vals ⟨⟨#[]⟩,nm,x,rd⟩) 94)):=(Fr.refl _ _).alloc _;have HF:=zh (And.intro y ((a4.out.step a6 zn).step a5 (fun b _ h=>zP Y.out h)));clear y a5 a6 A v
     go_roundw
     case rel=>exact⟨j+1,V++[⟨⟨#[]⟩,nm,x,rd⟩],b6,b7,by omega,by simp;omega,by simp,by go_num,by rw[List.length_append,zBU];exact HF.out.1,zh I.out.symm,HF.out.2⟩
     case measure=>simp[intOf];omega
   ·obtain rfl:j=f.length:=by omega
    obtain⟨a',c',hv,hR,C⟩:=Virs.of_own g;cases hv;have N:=Hx.out.size;have H:=zh (And.intro (And.intro hR (fun O e=>Nat.le_trans N (C O e))) (Hx.out.step (D.mono (T:=No) (fun b hb h=>by unfold From at h;omega)) zi));clear g D hR C N
    go_wp2_with fail
    go_ret;exact⟨⟨_,_,V,rfl,H.out.1.1,by unfold wantL;rw[if_pos rfl];exact HV.out,H.out.1.2⟩,H.out.2⟩
 ·have hb:(n != t)=true:=by simpa using F
  have b8:=zh F;clear F
  go_wp2_with fail
  go_ret;exact⟨⟨none,0,[],rfl,Virs.nil _,by unfold wantL;rw[if_neg b8.out],fun O e=>by cases e⟩,Hx.out⟩
def againB (ds:List Dev)(tx:Dev->ByteArray)(M:List Vir)(r:Int)(s:Src):Bool:=
 match M.find? (fun v=>decide ((v.q,v.o)=(plc ds s.d.parent,s.d.orig)))with
 | some v=>(v.r==r)&&(v.c.toList==(tx s.d).toList)
 | none=>false
def moreS (ds:List Dev)(tx:Dev->ByteArray)(M:List Vir)(r:Int)(C:List Src)(k:Nat):List Src:=((C.take k).filter (againB ds tx M r)).map fun s=>{ s with r:=r }
theorem zHH {ds:List Dev}{tx:Dev->ByteArray}{M:List Vir}{r:Int}{C:List Src}{k:Nat}{s:Src}(h:C[k]?=some s):moreS ds tx M r C (k+1)=moreS ds tx M r C k++(if againB ds tx M r s=true then [{ s with r:=r }]else []):=by
 unfold moreS;rw[List.take_add_one,h,List.filter_append,List.map_append]
 congr 1
 cases hb:againB ds tx M r s<;>simp[hb]
theorem zIG (ds:List Dev)(tx:Dev->ByteArray)(M:List Vir)(r:Int)(C:List Src)(k:Nat):(moreS ds tx M r C k).length<=C.length:=by
 unfold moreS;rw[List.length_map];exact Nat.le_trans (List.length_filter_le _ _) (by rw[List.length_take];omega)
theorem RS.growS {c:RC}{w X:World}{v:Option Addr}{y:Nat}{D:Option Addr}{F:Nat}{S:List Src}{M:List Vir}{G:List (ByteArray×ByteArray)}(h:RS c w v y D F S M G){s:Src}
  {I:Option Addr} {J:Nat} (q:Fr (fun b=>b=c.xb\/(Value.slice v S.length y).ownBlock=some b) w X)
  (N:X.heap[c.xb]?=some (.cells (rcs c.ka c.kn c.kc c.wt c.a c.n c.cap c.ca c.C.length c.cc c.ea c.en c.ec I (S.length+1) J c.wm c.sm D M.length F) 83))
  (O:X.ownsRow c.b2 123 13 (.slice I (S.length+1) J) (S.length+1) (sflat S++s.vals.toList)):RS c X I J D F (S++[s]) M G:=by
 have L:(S++[s]).length=S.length+1:=by simp
 have R:=h.lo;have o:∀ b,(Value.slice v S.length y).ownBlock=some b->c.b2<=b:=fun b z=>zP h.so z
 have u:∀ g,c.ca=some g->¬ (g.block=c.xb\/(Value.slice v S.length y).ownBlock=some g.block):=fun g e f=>by
  have U:=h.cb g e;rcases f with f | f
  ·obtain⟨cs,A⟩:=U.2.2 g e;rw[f,h.k]at A;injection A with A
   injection A with _ e2
   exact absurd e2 (by decide)
  ·have:=o _ f;omega
 refine⟨by rw[L];exact N,by rw[L,zCG];exact O,zG h.mo q (fun b z f=>?_),h.cs.fr q (fun g e _=>u g e),fun g e=>⟨(h.cb g e).1,(h.cb g e).2.1,(h.cb g e).2.2.fr q u⟩,h.wmo.fr q (fun f=>?_),h.smo.fr q (fun f=>?_),h.ne,h.lo,Nat.le_trans h.b2l q.size⟩
 ·rcases f with f | f
  ·subst f;exact zR h.mo h.k (by decide) z
  ·obtain⟨g,rfl,rfl⟩:=zAn z;exact BlkT.ne h.so (zAI h.mo) (by decide) g rfl f
 ·rcases f with f | f
  ·exact h.wmo.ne_cells h.k (Eq.symm f)
  ·have:=o _ f;omega
 ·rcases f with f | f
  ·exact h.smo.ne_cells h.k (Eq.symm f)
  ·have:=o _ f;omega
theorem RS.perm {c:RC}{w X:World}{u:Option Addr}{v:Nat}{C:Option Addr}{D:Nat}{S y:List Src}{M:List Vir}{G:List (ByteArray×ByteArray)}(h:RS c w u v C D S M G)
  (q:Fr (fun b=>(Value.slice u S.length v).ownBlock=some b) w X) (F:y.length=S.length)
  (I:X.ownsRow c.b2 123 13 (.slice u y.length v) y.length (sflat y)):RS c X u v C D y M G:=by
 have J:=h.lo;have g:∀ b,(Value.slice u S.length v).ownBlock=some b->c.b2<=b:=fun b A=>zP h.so A
 have z:∀ f,c.ca=some f->¬ ((Value.slice u S.length v).ownBlock=some f.block):=fun f e o=>by
  have L:=h.cb f e;have:=g _ o;omega
 refine⟨by rw[F];exact q.heap h.k (fun o=>by have:=g _ o;omega),I,zG h.mo q (fun b A o=>?_),h.cs.fr q (fun f e _=>z f e),fun f e=>⟨(h.cb f e).1,(h.cb f e).2.1,(h.cb f e).2.2.fr q z⟩,h.wmo.fr q (fun o=>?_),h.smo.fr q (fun o=>?_),h.ne,h.lo,Nat.le_trans h.b2l q.size⟩
 ·obtain⟨f,rfl,rfl⟩:=zAn A;exact BlkT.ne h.so (zAI h.mo) (by decide) f rfl o
 ·have:=g _ o;omega
 ·have:=g _ o;omega
def mdK : ByteArray:=⟨#[109,100]⟩
def zBR (ds:List Dev)(E:List ByteArray)(r:Int)(x:List Vir×List (ByteArray×ByteArray))(m:ArrM):List Vir×List (ByteArray×ByteArray):=
 if mustB m.t m.e m.n (exB ds m.i) (hasS E m.i)=true then
  (if (x.2.any fun y=>decide (y=(mdK,m.i)))=true then (x.1,x.2++[(mdK,m.i)])else (zw x.1 (mdOf m.i m.l r),x.2++[(mdK,m.i)]))
 else x
def arrAll (ds:List Dev)(E:List ByteArray)(r:Int)(x:List Vir×List (ByteArray×ByteArray))(O:List ArrM)(k:Nat):List Vir×List (ByteArray×ByteArray):=(O.take k).foldl (zBR ds E r) x
theorem zDQ {ds:List Dev}{E:List ByteArray}{r:Int}{x:List Vir×List (ByteArray×ByteArray)}{O:List ArrM}{k:Nat}{m:ArrM}(h:O[k]?=some m):arrAll ds E r x O (k+1)=zBR ds E r (arrAll ds E r x O k) m:=by
 unfold arrAll;rw[List.take_add_one,h,List.foldl_append];rfl
theorem zFx (ds:List Dev)(E:List ByteArray)(r:Int)(x:List Vir×List (ByteArray×ByteArray))(m:ArrM):(zBR ds E r x m).1.length<=x.1.length+1/\(zBR ds E r x m).2.length<=x.2.length+1:=by
 unfold zBR;split
 ·split
  ·simp
  ·exact⟨zCn _ _,by simp⟩
 ·simp
theorem zDw (ds:List Dev)(E:List ByteArray)(r:Int)(x:List Vir×List (ByteArray×ByteArray))(O:List ArrM):∀ k,(arrAll ds E r x O k).1.length<=x.1.length+k/\(arrAll ds E r x O k).2.length<=x.2.length+k:=by
 intro k
 induction k with
 | zero=>simp[arrAll]
 | succ k g=>
  by_cases f:k<O.length
  ·rw[zDQ (List.getElem?_eq_getElem f)];have:=zFx ds E r (arrAll ds E r x O k) O[k];omega
  ·have:arrAll ds E r x O (k+1)=arrAll ds E r x O k:=by unfold arrAll;rw[List.take_of_length_le (by omega),List.take_of_length_le (by omega)]
   rw[this];omega
def lvK : ByteArray:=⟨#[108,118]⟩
def zCM (r:Int)(x:List Vir×List (ByteArray×ByteArray))(m:ArrM):List Vir×List (ByteArray×ByteArray):=
 if m.n=m.t then
  (if (x.2.any fun y=>decide (y=(lvK,m.i)))=true then (x.1,x.2++[(lvK,m.i)])else (zl x.1 (wantL m.i m.t m.n m.l r),x.2++[(lvK,m.i)]))
 else x
def grpAll (r:Int)(x:List Vir×List (ByteArray×ByteArray))(O:List ArrM)(k:Nat):List Vir×List (ByteArray×ByteArray):=(O.take k).foldl (zCM r) x
theorem zC8 {r:Int}{x:List Vir×List (ByteArray×ByteArray)}{O:List ArrM}{k:Nat}{m:ArrM}(h:O[k]?=some m):grpAll r x O (k+1)=zCM r (grpAll r x O k) m:=by
 unfold grpAll;rw[List.take_add_one,h,List.foldl_append];rfl
theorem zEd (g:ByteArray)(t n:Int)(f:List ByteArray)(r:Int):(wantL g t n f r).length<=f.length:=by
 unfold wantL;split
 ·exact zHe _ _ _ _
 ·simp
theorem zFk (r:Int)(x:List Vir×List (ByteArray×ByteArray))(m:ArrM)(h:m.l.length<=16):(zCM r x m).1.length<=x.1.length+16/\(zCM r x m).2.length<=x.2.length+1:=by
 unfold zCM;split
 ·split
  ·simp
  ·have f:=zAd (wantL m.i m.t m.n m.l r) x.1;have g:=zEd m.i m.t m.n m.l r;exact⟨by dsimp only;omega,by simp⟩
 ·simp
theorem zHM (r:Int)(x:List Vir×List (ByteArray×ByteArray))(O:List ArrM)(g:∀ m∈O,m.l.length<=16):∀ k,(grpAll r x O k).1.length<=x.1.length+16*k/\(grpAll r x O k).2.length<=x.2.length+k:=by
 intro k
 induction k with
 | zero=>simp[grpAll]
 | succ k h=>
  by_cases f:k<O.length
  ·rw[zC8 (List.getElem?_eq_getElem f)];have:=zFk r (grpAll r x O k) O[k] (g _ (List.getElem_mem f));omega
  ·have:grpAll r x O (k+1)=grpAll r x O k:=by unfold grpAll;rw[List.take_of_length_le (by omega),List.take_of_length_le (by omega)]
   rw[this];omega
theorem zHc {y:ByteArray}{t n:Int}{f:List ByteArray}{r:Int}{v:Vir}(h:v∈wantL y t n f r):v.q.size=0/\v.o.size<=32:=by
 unfold wantL at h;split at h
 ·unfold wantF at h;obtain⟨i,z,rfl⟩:=List.mem_map.1 h;have g:=(List.mem_filter.1 z).2;refine⟨rfl,?_⟩;unfold lvOk at g;simp only[Bool.and_eq_true]at g;have u:=g.2;unfold isName at u;simp at u;exact u.1.1.1.2
 ·cases h
def MidR (ds:List Dev)(tx:Dev->ByteArray)(E K:List ByteArray)(r:Int)(S:List Src)(M:List Vir)(G:List (ByteArray×ByteArray))(M3:List Vir)(G2:List (ByteArray×ByteArray)):Prop:=
 ∃ (L2:List Mem) (ids2:List ByteArray) (O2:List ArrM) (M2:List Vir) (L3:List Mem) (ids3:List ByteArray),
  L2.map Mem.k=S.filterMap (fun s=>ofK 2 mk2 s.o s.r (tx s.d))/\IsIds2 (zo soundA L2) ids2/\O2.map ArrM.toArr=ids2.map (buildA (zo soundA L2))/\
  (M2,G2)=arrAll ds E r (wantS tx S M r S.length,G) O2 O2.length/\
  L3.map Mem.k=S.filterMap (fun s=>ofK 3 mk3 s.o s.r (tx s.d))/\IsIds L3 ids3/\M3=zl M2 ((opened ids3 K).map (virOf L3 r))
def NextR (ds:List Dev)(tx:Dev->ByteArray)(E K:List ByteArray)(C:List Src)(r:Int)(S:List Src)(M:List Vir)(G:List (ByteArray×ByteArray))(S':List Src)(M':List Vir)(G':List (ByteArray×ByteArray)):Prop:=
 (∃ (M3:List Vir) (G2:List (ByteArray×ByteArray)) (L4:List Mem) (ids4:List ByteArray) (O4:List ArrM),MidR ds tx E K r S M G M3 G2/\
  L4.map Mem.k=S.filterMap (fun s=>ofK 4 mk4 s.o s.r (tx s.d))/\IsIds2 (zo soundB L4) ids4/\O4.map ArrM.toArr=ids4.map (buildA (zo soundB L4))/\
  (M',G')=grpAll r (M3,G2) O4 O4.length)/\
 S'.Perm (S++moreS ds tx M' r C C.length)/\S'.Pairwise (fun x y=>x.at_<=y.at_)
theorem zBJ {ds:List Dev}(f:TreeOk ds)(g:ds.length<=250)(n:Int):(plc ds n).size<=33*250:=by
 rw[<-zCJ f];have:=zBZ f.sz ds.length n;rw[List.take_length]at this;omega
theorem zGv (M:List Vir)(p:ByteArray×ByteArray):∃ y:Vir,(wantG M p).getD zBf=.agg #[.string y.q,.string y.o,.string y.c,.int .i64 y.r]/\∀ v,M.find? (fun v=>decide ((v.q,v.o)=p))=some v->y=v:=by
 unfold wantG;cases hq:M.find? (fun v=>decide ((v.q,v.o)=p))with
 | none=>exact⟨⟨⟨#[]⟩,⟨#[]⟩,⟨#[]⟩,0⟩,rfl,fun v h=>by cases h⟩
 | some v=>exact⟨v,rfl,fun u h=>by injection h⟩
theorem zI6 {ds:List Dev}{tx:Dev->ByteArray}{M:List Vir}{r:Int}{s:Src}{P:ByteArray}{y:Vir}(f:P=plc ds s.d.parent)(g:∀ v,M.find? (fun v=>decide ((v.q,v.o)=(P,s.d.orig)))=some v->y=v):
  againB ds tx M r s=((wantG M (P,s.d.orig)).isSome&&((y.r==r)&&(y.c.toList==(tx s.d).toList))):=by
 unfold againB wantG;rw[<-f];cases hq:M.find? (fun v=>decide ((v.q,v.o)=(P,s.d.orig)))with
 | none=>rfl
 | some v=>rw[g v hq];rfl
theorem zJn (p:Option Addr)(f:Nat)(g:Value)(w:World):
  Calls Tryz.prog 210 #[.slice p 0 f,.int .i64 0,.int .i64 0,g] w fun e w'=>e=.returned (.tuple #[])/\w'=w:=by
 go_enter Tryz.func210,Tryz.ntmps210
 go_wp2;refine wp_loop_rounds 1 ?_;rw[rounds_succ];go_wp2
 go_end0
 exact⟨rfl,rfl⟩
theorem zJU (p:Option Addr)(f:Nat)(g:Int)(h:Value)(w:World):
  Calls Tryz.prog 168 #[.slice p 0 f,.int .i64 0,.int .i64 0,.int .i64 g,h] w fun e w'=>e=.returned (.tuple #[])/\w'=w:=by
 have o:=zJn p f h w
 go_enter Tryz.func168,Tryz.ntmps168
 go_wp2;refine wp_loop_rounds 1 ?_;rw[rounds_succ]
 go_wp2_with fail
 refine o.mono ?_;rintro e w' ⟨rfl,rfl⟩
 go_wp2_with fail
 (try simp only[Exit.inBlock,Exit.then]);refine bodyPost_ret (results_none rfl _ _ _) rfl ?_
 exact⟨rfl,rfl⟩
theorem zHs (p:Option Addr)(f:Nat)(h:Value)(w:World)(o:Calls Tryz.prog 169 #[.int .u64 0] w fun e w'=>(∃ k,e=.returned (.int .i64 k))/\w'=w):
  Calls Tryz.prog 117 #[.slice p 0 f,h] w fun e w'=>e=.returned (.tuple #[])/\w'=w:=by
 have q:=fun g=>zJU p f g h w
 go_enter Tryz.func117,Tryz.ntmps117
 go_wp2_with fail
 refine o.mono ?_;rintro e w' ⟨⟨k,rfl⟩,rfl⟩
 go_wp2_with fail
 refine(q k).mono ?_;rintro e w' ⟨rfl,rfl⟩
 go_wp2_with fail
 go_end0
 exact⟨rfl,rfl⟩
end Go.Proofs.YtinfjnndbfahhaaGreatDoor
