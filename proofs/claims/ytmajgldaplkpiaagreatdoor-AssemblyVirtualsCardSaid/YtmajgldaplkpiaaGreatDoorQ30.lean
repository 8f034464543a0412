import Derived.Test.YtmajgldaplkpiaaGreatDoorQ21
import Derived.Test.YtmajgldaplkpiaaGreatDoorQ29
namespace Go.Proofs.YtmajgldaplkpiaaGreatDoor
open Go.RowKit Go.Maps
set_option linter.unusedVariables false
set_option maxRecDepth 100000
set_option maxHeartbeats 8000000
structure Mems (w:World)(a:Option Addr)(cap:Nat)(L:List Mem):Prop where
 len:L.length<=cap
 max:cap<=maxLen
 isNil:a=none->L=[]/\cap=0
 ok:∀ m∈L,Strs w m.a m.c m.l
 cell:∀ ad,a=some ad->L≠[]->ad.spot=none/\ad.block<w.heap.size/\∀ i m,L[i]?=some m->∀ j,j<7->w.cell? ⟨ad.block,ad.off+(i*7+j),none⟩=m.vals[j]?
structure MemAt (w:World)(b o:Nat)(m:Mem):Prop where
 c0:w.cell? ⟨b,o,none⟩=some (.string m.p)
 c1:w.cell? ⟨b,o+1,none⟩=some (.string m.i)
 c2:w.cell? ⟨b,o+2,none⟩=some (.int .i64 m.r)
 c3:w.cell? ⟨b,o+3,none⟩=some (.int .i64 m.s)
 c4:w.cell? ⟨b,o+4,none⟩=some (.int .i64 m.t)
 c5:w.cell? ⟨b,o+5,none⟩=some (.int .i64 m.e)
 c6:w.cell? ⟨b,o+6,none⟩=some (.slice m.a m.l.length m.c)
theorem Mems.elem {w:World}{a:Option Addr}{cap:Nat}{L:List Mem}(h:Mems w a cap L){k:Nat}(hk:k<L.length):
  ∃ b off m,a=some ⟨b,off,none⟩/\L[k]?=some m/\Strs w m.a m.c m.l/\MemAt w b (off+k*7) m/\b<w.heap.size:=by
 cases a with
 | none=>obtain⟨rfl,_⟩:=h.isNil rfl;simp at hk
 | some ad=>
  obtain⟨b,off,sp⟩:=ad;obtain⟨h1,h2,h3⟩:=h.cell _ rfl (by intro e;subst e;simp at hk);simp at h1;subst h1;have hc:=h3 k _ (List.getElem?_eq_getElem hk);exact⟨b,off,L[k],rfl,List.getElem?_eq_getElem hk,h.ok _ (List.getElem_mem hk),⟨hc 0 (by omega),hc 1 (by omega),hc 2 (by omega),hc 3 (by omega),hc 4 (by omega),hc 5 (by omega),hc 6 (by omega)⟩,h2⟩
theorem Mems.lenmax {w:World}{a:Option Addr}{cap:Nat}{L:List Mem}(h:Mems w a cap L):L.length<=9223372036854775807:=by
 have h1:=h.len;have h2:=h.max;unfold maxLen at h2;omega
theorem Mems.fr {S:Nat->Prop}{w w':World}{a:Option Addr}{cap:Nat}{L:List Mem}(h:Mems w a cap L)(hf:Fr S w w')(hS:∀ ad,a=some ad->L≠[]->¬ S ad.block)(hM:∀ m∈L,∀ ad,m.a=some ad->m.l≠[]->¬ S ad.block):Mems w' a cap L:=
 ⟨h.len,h.max,h.isNil,fun m hm=>(h.ok m hm).fr hf (hM m hm),fun ad e hne=>by
  obtain⟨h1,h2,h3⟩:=h.cell ad e hne;refine⟨h1,Nat.lt_of_lt_of_le h2 hf.size,fun i m hi j hj=>?_⟩;rw[<-h3 i m hi j hj];exact World.cell?_of_block (hf.block _ h2 (hS ad e hne))⟩
theorem Mems.no {S:Nat->Prop}{w w':World}{a:Option Addr}{cap:Nat}{L:List Mem}(h:Mems w a cap L)(hf:Fr S w w')(hS:∀ k,¬ S k):Mems w' a cap L:=h.fr hf (fun _ _ _=>hS _) (fun _ _ _ _ _=>hS _)
theorem Mems.keep {S:Nat->Prop}{w w':World}{a:Option Addr}{cap:Nat}{L:List Mem}(h:Mems w a cap L)(hf:Fr S w w')(hS:∀ b,b<w.heap.size->¬ S b):Mems w' a cap L:=
 h.fr hf (fun ad e hne=>hS _ (h.cell ad e hne).2.1) (fun m hm ad e hne=>hS _ ((h.ok m hm).cell ad e hne).2.1)
theorem Mems.nil (w:World):Mems w none 0 []:=⟨by simp,by simp,fun _=>⟨rfl,rfl⟩,by simp,fun _ e _=>by cases e⟩
theorem infoM : (Tryz.prog.info? 264).map (fun i=>(i.zero,i.size,i.bytes))=some (some (.agg #[.string ByteArray.empty,.string ByteArray.empty,.int .i64 0,.int .i64 0,.int .i64 0,.int .i64 0,.slice none 0 0]),7,88):=by kernel_rfl
def mflat (L:List Mem):List Value:=L.flatMap (fun m=>m.vals.toList)
theorem zBT (L:List Mem)(m:Mem):mflat (L++[m])=mflat L++m.vals.toList:=by simp[mflat]
theorem zBt (m:Mem):∀ u∈m.vals.toList,u.oneCell'=true:=by
 intro u hu;simp[Mem.vals]at hu;rcases hu with rfl | rfl | rfl | rfl | rfl | rfl | rfl<;>rfl
theorem zFi : ∀ (L:List Mem) (i:Nat) (m:Mem),L[i]?=some m->∀ j,j<7->(mflat L)[i*7+j]?=m.vals[j]?
 | [],i,m,h,j,hj=>by simp at h
 | x::t,0,m,h,j,hj=>by
  simp at h;subst h;have:mflat (x::t)=x.vals.toList++mflat t:=by simp[mflat]
  rw[this,List.getElem?_append_left (by simp[Mem.vals];omega)];simp
 | x::t,i+1,m,h,j,hj=>by
  have:mflat (x::t)=x.vals.toList++mflat t:=by simp[mflat]
  rw[this,List.getElem?_append_right (by simp[Mem.vals];omega),show (i+1)*7+j-x.vals.toList.length=i*7+j from by simp[Mem.vals];omega];exact zFi t i m (by simpa using h) j hj
theorem Mems.of_own {w:World}{base:Nat}{e:TypeId}{v:Value}{L:List Mem}(h:w.ownsRow base e 7 v L.length (mflat L))(hok:∀ m∈L,Strs w m.a m.c m.l):
  ∃ a cap,v=.slice a L.length cap/\Mems w a cap L/\∀ ad,a=some ad->base<=ad.block:=by
 obtain⟨_,⟨rfl,h2⟩ | ⟨g,cap,cur,rfl,hg,hb,h1,h2,h3,h4⟩⟩:=h
 ·have:L=[]:=List.eq_nil_of_length_eq_zero h2;subst this;exact⟨none,0,rfl,Mems.nil w,fun _ e=>by cases e⟩
 ·refine⟨some ⟨g,0,none⟩,cap,rfl,⟨h1,h2,(fun e=>by cases e),hok,?_⟩,fun ad e=>by cases e;exact hg⟩;intro ad e hne;cases e;refine⟨rfl,zE hb,fun i m hi j hj=>?_⟩;rw[zB hb];simp only[Nat.zero_add];have hlt:i<L.length:=(List.getElem?_eq_some_iff.1 hi).1;have e1:(cur.toList.take (L.length*7))[i*7+j]?=(mflat L)[i*7+j]?:=by rw[h4]
  rw[List.getElem?_take_of_lt (by omega),zFi L i m hi j hj]at e1;rw[<-Array.getElem?_toList,e1]
def MFresh (w:World)(base:Nat)(L:List Mem):Prop:=∀ m∈L,Strs w m.a m.c m.l/\BlkT w m.a 9/\∀ ad,m.a=some ad->base<=ad.block
theorem MFresh.fr {S:Nat->Prop}{w w':World}{base:Nat}{L:List Mem}(h:MFresh w base L)(hf:Fr S w w')(hS:∀ b,base<=b->b<w.heap.size->¬ S b):MFresh w' base L:=fun m hm=>by
 obtain⟨h1,h2,h3⟩:=h m hm;have hk:∀ ad,m.a=some ad->¬ S ad.block:=fun ad e=>by obtain⟨cs,hc⟩:=h2 ad e;exact hS _ (h3 ad e) (zE hc)
 exact⟨h1.fr hf (fun ad e _=>hk ad e),h2.fr hf hk,h3⟩
theorem MFresh.own {w w':World}{base b0:Nat}{L:List Mem}{v:Value}{n:Nat}{xs:List Value}(h:MFresh w base L)(ho:w.ownsRow b0 264 7 v n xs)(hf:Fr (fun b=>v.ownBlock=some b) w w'):MFresh w' base L:=fun m hm=>by
 obtain⟨h1,h2,h3⟩:=h m hm;have hk:=BlkT.ne ho h2 (by decide);exact⟨h1.fr hf (fun ad e _=>hk ad e),h2.fr hf hk,h3⟩
theorem MFresh.snoc {w:World}{base:Nat}{L:List Mem}{m:Mem}(h:MFresh w base L)(h1:Strs w m.a m.c m.l)(h2:BlkT w m.a 9)(h3:∀ ad,m.a=some ad->base<=ad.block):MFresh w base (L++[m]):=fun x hx=>by
 rcases List.mem_append.1 hx with hx | hx
 ·exact h x hx
 ·obtain rfl:x=m:=by simpa using hx
  exact⟨h1,h2,h3⟩
def OfR (f:ByteArray->Int->ByteArray->Option Mem)(w:World)(p:ByteArray)(rd:Int)(s:ByteArray)(e:Ending)(w':World):Prop:=
 ∃ (m:Mem) (b:Bool),e=.returned (.tuple #[.agg #[.string m.p,.string m.i,.int .i64 m.r,.int .i64 m.s,.int .i64 m.t,.int .i64 m.e,.slice m.a m.l.length m.c],.bool b])/\((b=false/\f p rd s=none)\/(b=true/\f p rd s=some m.k))/\(b=true->Strs w' m.a m.c m.l)/\(b=true->∀ ad,m.a=some ad->w.heap.size<=ad.block)
def ofK (k:Int)(mk:ByteArray->Int->Ct->Mem)(p:ByteArray)(rd:Int)(s:ByteArray):Option Mem:=match parseC s with
 | some c=>if c.kind=k then some (mk p rd c)else none
 | none=>none
def mk2 (p:ByteArray)(rd:Int)(c:Ct):Mem:=⟨p,c.id,rd,c.slot,c.total,c.least,none,c.inner.map Ct.txt,0⟩
def mk3 (p:ByteArray)(rd:Int)(c:Ct):Mem:=⟨p,c.id,rd,0,0,0,none,c.inner.map Ct.txt,0⟩
def mk4 (p:ByteArray)(rd:Int)(c:Ct):Mem:=⟨p,c.id,rd,c.slot,c.total,c.total,none,c.inner.map Ct.txt,0⟩
theorem zFd {k:Int}{mk:ByteArray->Int->Ct->Mem}{p:ByteArray}{rd:Int}{s:ByteArray}(h:∀ c,parseC s=some c->c.kind≠k):ofK k mk p rd s=none:=by
 unfold ofK;cases hc:parseC s with
 | none=>rfl
 | some c=>exact if_neg (h c hc)
theorem zE4 {k:Int}{mk:ByteArray->Int->Ct->Mem}{p:ByteArray}{rd:Int}{s:ByteArray}{c:Ct}(h:parseC s=some c)(hk:c.kind=k):ofK k mk p rd s=some (mk p rd c):=by
 unfold ofK;rw[h];exact if_pos hk
theorem OfRes2.of {w:World}{p s:ByteArray}{rd:Int}{e:Ending}{w':World}(h:OfRes2 w p s rd e w'):OfR (ofK 2 mk2) w p rd s e w':=by
 rcases h with⟨h1,h2⟩ | ⟨c,a',c',h1,h2,h3,h4,h5⟩
 ·exact⟨⟨⟨#[]⟩,⟨#[]⟩,0,0,0,0,none,[],0⟩,false,h2,.inl ⟨rfl,zFd h1⟩,(fun h=>by cases h),(fun h=>by cases h)⟩
 ·exact⟨⟨p,c.id,rd,c.slot,c.total,c.least,a',c.inner.map Ct.txt,c'⟩,true,by rw[h3];simp,.inr ⟨rfl,zE4 h1 h2⟩,fun _=>h4,fun _=>h5⟩
theorem OfRes.of {w:World}{p s:ByteArray}{rd:Int}{e:Ending}{w':World}(h:OfRes w p s rd e w'):OfR (ofK 3 mk3) w p rd s e w':=by
 rcases h with⟨h1,h2⟩ | ⟨c,a',c',h1,h2,h3,h4,h5⟩
 ·exact⟨⟨⟨#[]⟩,⟨#[]⟩,0,0,0,0,none,[],0⟩,false,h2,.inl ⟨rfl,zFd h1⟩,(fun h=>by cases h),(fun h=>by cases h)⟩
 ·exact⟨⟨p,c.id,rd,0,0,0,a',c.inner.map Ct.txt,c'⟩,true,by rw[h3];simp,.inr ⟨rfl,zE4 h1 h2⟩,fun _=>h4,fun _=>h5⟩
theorem OfRes4.of {w:World}{p s:ByteArray}{rd:Int}{e:Ending}{w':World}(h:OfRes4 w p s rd e w'):OfR (ofK 4 mk4) w p rd s e w':=by
 rcases h with⟨h1,h2⟩ | ⟨c,a',c',h1,h2,h3,h4,h5⟩
 ·exact⟨⟨⟨#[]⟩,⟨#[]⟩,0,0,0,0,none,[],0⟩,false,h2,.inl ⟨rfl,zFd h1⟩,(fun h=>by cases h),(fun h=>by cases h)⟩
 ·exact⟨⟨p,c.id,rd,c.slot,c.total,c.total,a',c.inner.map Ct.txt,c'⟩,true,by rw[h3];simp,.inr ⟨rfl,zE4 h1 h2⟩,fun _=>h4,fun _=>h5⟩
def TxS (w:World)(b0:Nat)(tx:Dev->ByteArray)(L:List Dev):Prop:=∀ d∈L,∃ l,Atts w d.aa d.ac l/\d.an=l.length/\getP l zr=tx d/\(tx d).size<=100000/\∀ ad,d.aa=some ad->l≠[]->ad.block<b0
theorem TxS.fr {T:Nat->Prop}{w w':World}{b0:Nat}{tx:Dev->ByteArray}{L:List Dev}(h:TxS w b0 tx L)(hf:Fr T w w')(hT:∀ b,b<b0->¬ T b):TxS w' b0 tx L:=fun d hd=>by
 obtain⟨l,h1,h2,h3,h4,h5⟩:=h d hd;exact⟨l,h1.fr hf (fun ad e hn=>hT _ (h5 ad e hn)),h2,h3,h4,h5⟩
def MOk (w:World)(v:Value)(L:List Mem):Prop:=∀ m∈L,Strs w m.a m.c m.l/\∀ ad,m.a=some ad->m.l≠[]->¬ v.ownBlock=some ad.block
theorem MOk.no {w w':World}{v:Value}{L:List Mem}(h:MOk w v L)(hf:Fr No w w'):MOk w' v L:=fun m hm=>⟨(h m hm).1.no hf (fun _=>id),(h m hm).2⟩
theorem MOk.push {w w':World}{v v':Value}{L:List Mem}{m:Mem}(h:MOk w v L)(h1:Strs w m.a m.c m.l)(h2:∀ ad,m.a=some ad->m.l≠[]->¬ v.ownBlock=some ad.block)(hf:Fr (fun b=>v.ownBlock=some b) w w')
  (hat:v'.ownBlock=v.ownBlock\/∃ n,v'.ownBlock=some n/\w.heap.size<=n):MOk w' v' (L++[m]):=by
 have key:∀ x:Mem,Strs w x.a x.c x.l->(∀ ad,x.a=some ad->x.l≠[]->¬ v.ownBlock=some ad.block)->Strs w' x.a x.c x.l/\∀ ad,x.a=some ad->x.l≠[]->¬ v'.ownBlock=some ad.block:=fun x hx hy=>by
  refine⟨hx.fr hf (fun ad e hn=>hy ad e hn),fun ad e hn ho=>?_⟩;rcases hat with hat | ⟨n,hat,hn2⟩
  ·rw[hat]at ho;exact hy ad e hn ho
  ·rw[hat]at ho;injection ho with ho
   have:=(hx.cell ad e hn).2.1;omega
 intro x hx;rcases List.mem_append.1 hx with hx | hx
 ·exact key x (h x hx).1 (h x hx).2
 ·simp at hx;subst hx;exact key x h1 h2
theorem zDI (F:Nat)(eg:∀ args w,(callFunc F args).run Tryz.prog w=.ok (.enter F args) w)(f:ByteArray->Int->ByteArray->Option Mem)(hF:∀ (p:ByteArray) (rd:Int) (s:ByteArray) (W:World),Env W->s.size<=100000->Calls Tryz.prog F #[.string p,.int .i64 rd,.string s] W fun e w'=>OfR f W p rd s e w'/\Fr No W w')
  (tx:Dev->ByteArray) (b0:Nat) (c:RC) (sa:Option Addr) (sc:Nat) (ma:Option Addr) (mc:Nat) (S:List Src) (M:List Vir) (G:List (ByteArray×ByteArray)) (w:World) (h:RS c w sa sc ma mc S M G) (hE:Env w) (hx:TxS w b0 tx (S.map Src.d)) (hb0:b0<=w.heap.size) (hS:S.length<=1000):
  Calls Tryz.prog 151 #[.pointer (some ⟨c.xb,0,none⟩),.func (.func F) #[] #[]] w fun e w'=>(∃ (L:List Mem) (a:Option Addr) (cap:Nat),L.map Mem.k=S.filterMap (fun s=>f s.o s.r (tx s.d))/\e=.returned (.slice a L.length cap)/\Mems w' a cap L/\(∀ ad,a=some ad->w.heap.size<=ad.block))/\Fr No w w':=by
 obtain⟨i0,hi0,hz0,hz1,hz2⟩:=info_parts infoM;have t5:w.cell? ⟨c.xb,5,none⟩=some (.slice sa S.length sc):=zB h.k 5;obtain⟨a9,c9,hv9,hSr,hfr9⟩:=Srcs.of_own h.so;cases hv9;have hsm:=hSr.lenmax;have HE:Hid (∀ W,Fr (From w.heap.size) w W->Env W):=fun W hf=>hE.fr hf (fun b hb=>by unfold From;have:=hE.sz;omega)
 have HTx:Hid (∀ W,Fr (From w.heap.size) w W->TxS W b0 tx (S.map Src.d)):=fun W hf=>hx.fr hf (fun b hb h=>by unfold From at h;omega)
 have HF:=Lib.hid hF;have hsl:∀ ad,sa=some ad->S≠[]->ad.block<w.heap.size:=fun ad e hn=>(hSr.cell ad e hn).2.1
 clear h hE hx hF hfr9
 go_enter Tryz.func151,Tryz.ntmps151
 go_wp2_with fail
 clear t5
 go_loopw [5,15] (fun v i wr=>∃ (j:Nat) (L:List Mem) (av:Option Addr) (cv:Nat),j<=S.length/\L.length<=j/\v=.slice av L.length cv/\i=.int .i64 (j:Int)/\wr.ownsRow w.heap.size 264 7 (.slice av L.length cv) L.length (mflat L)/\Hid (L.map Mem.k=(S.take j).filterMap fun s=>f s.o s.r (tx s.d))/\MOk wr (.slice av L.length cv) L/\Fr (From w.heap.size) w wr) (fun _ i _=>S.length-(intOf i).toNat)
 case atStart=>exact⟨0,[],none,0,by omega,by simp,rfl,rfl,World.ownsRow_nil _ _ _ _,by unfold Hid;simp,(fun m hm=>by cases hm),Fr.refl _ _⟩
 case round=>
  obtain⟨j,L,av,cv,hj,hLl,rfl,rfl,hown,HL,hok,hf⟩:=hrel;have hLle:L.length<=1000:=by omega
  have hnb:=fun b (h:(Value.slice av L.length cv).ownBlock=some b)=>zU hown h
  have hwsz:=hf.size;by_cases hlt:j<S.length
  ·have hlt':(j:Int)<S.length:=by omega
   obtain⟨cb,coff,s,rfl,hs,⟨c0,c1,c2,c3,c4,c5,c6,c7,c8,c9,c10,c11,c12⟩,hcbl⟩:=(hSr.fr hf (fun ad e hn h=>by have:=hsl ad e hn;unfold From at h;omega)).elem hlt;have Htk:Hid (S.take (j+1)=S.take j++[s]):=by unfold Hid;rw[List.take_add_one,hs];rfl
   have hmem:s.d∈S.map Src.d:=List.mem_map_of_mem (List.mem_of_getElem? hs);obtain⟨W1,hW1⟩:∃ W1,W1=wr.alloc (.cells s.vals 163):=⟨_,rfl⟩
   have hx1:Fr No wr W1:=by rw[hW1];exact(Fr.refl _ _).alloc _
   have d1:W1.heap[wr.heap.size]?=some (.cells s.vals 163):=by rw[hW1];exact zD _ _
   have Hf1:=Lib.hid (hf.step hx1 (fun _ _ h=>h.elim));have HTX:Hid (∀ W,Fr (From w.heap.size) w W->Calls Tryz.prog 111 #[.agg #[.int .i64 s.d.index,.int .i64 s.d.parent,.string s.d.name,.string s.d.orig,.string s.d.sub,.string s.d.drv,.string s.d.ali,.int .i64 s.d.kind,.int .i64 s.d.num,.slice s.d.aa s.d.an s.d.ac]] W fun e w'=>e=.returned (.string (tx s.d))/\Fr No W w'):=fun W hfW=>by
    obtain⟨l,h1,h2,h3,h4,h5⟩:=HTx.out W hfW _ hmem;have:=zJS s.d l W h1 h2;rw[h3]at this;exact this
   have HCL:Hid (∀ W,Fr (From w.heap.size) w W->Calls Tryz.prog F #[.string s.o,.int .i64 s.r,.string (tx s.d)] W fun e w'=>OfR f W s.o s.r (tx s.d) e w'/\Fr No W w'):=fun W hfW=>by
    obtain⟨l,h1,h2,h3,h4,h5⟩:=HTx.out W hfW _ hmem;exact HF.out _ _ _ _ (HE.out W hfW) h4
   have Hown:=Lib.hid hown;have Hok:=Lib.hid hok;have Hf:=Lib.hid hf;unfold Src.vals at hW1;clear hs hmem hown hok hf
   go_upto_region 5 with(fail)
   rw[<-hW1];clear hW1 c0 c1 c2 c3 c4 c5 c6 c7 c8 c9 c10 c11 c12;refine zY (From W1.heap.size) (.q 0 (.q 1 (.q 2 (.q 3 (.q 4 (.q 5 (.q 6 (.m2 7 (.m2 8 (.q 9 (.q 10 (.q 11 (.m1 12 (.m1 13 (.q 14 .fin)))))) 12 (.m1 8 (.q 9 (.q 10 (.q 11 (.m1 13 (.q 14 .fin))))))) 12 (.m1 7 (.m1 8 (.q 9 (.q 10 (.q 11 (.m1 13 (.q 14 .fin))))))))))))))) _ (by kernel_rfl) (by kernel_rfl) (fun W3 hf3=>?_) (fun _ _ h=>h);have d3:=hf3.heap d1 id;have hs13:=hf3.size;have hwrW:wr.heap.size<W1.heap.size:=zE d1;have cB:∀ g:Gr (From W1.heap.size) W3,SrcB0 g.W wr.heap.size s:=fun g=>SrcB0.of (g.fr.heap d3 (by unfold From;omega))
   have e0:=fun g=>(cB g).c0
   have e1:=fun g=>(cB g).c1
   have e2:=fun g=>(cB g).c2
   have e3:=fun g=>(cB g).c3
   have e4:=fun g=>(cB g).c4
   have e5:=fun g=>(cB g).c5
   have e6:=fun g=>(cB g).c6
   have e7:=fun g=>(cB g).c7
   have e8:=fun g=>(cB g).c8
   have e9:=fun g=>(cB g).c9
   have e10:=fun g=>(cB g).c10
   have e11:=fun g=>(cB g).c11
   have e12:=fun g=>(cB g).c12
   have Hf3:=Lib.hid hf3;have Hf3':=Lib.hid (hf3.mono (T:=From W1.heap.size) (fun _ _ h=>h.elim));clear cB d3 d1
   repeat (first | (apply zM;exact rfl;exact rfl;exact rfl;intro K hK;go_big_quiet_op;go_big_quiet_on) | (apply zO;exact rfl;exact rfl;exact rfl;intro K hK;go_big_quiet_op;go_big_quiet_on))
   clear e0 e1 e2 e3 e4 e5 e6 e7 e8 e9 e10 e11 e12 hf3;refine zh rfl rfl ?_ ?_
   ·skip
    go_wp2_with fail
    refine(HTX.out W3 (Hf1.out.step Hf3.out (fun b hb h=>h.elim))).mono ?_;rintro e w5t ⟨rfl,hgw5t⟩;have Hf5t:=Lib.hid (Hf3.out.step hgw5t (fun _ _ h=>h));have sw5t:=hgw5t.size
    go_wp2_with fail
    refine OnlyN.mk ⟨hgw5t.mono (fun _ _ h=>h.elim),?_⟩;clear hgw5t;refine zh rfl rfl ?_ ?_
    ·skip;have hcl:=HCL.out w5t (Hf1.out.step Hf5t.out (fun b hb h=>h.elim))
     go_wp2_with (go_at_fn F;refine hcl.mono ?_;rintro e w5c ⟨⟨m,bb,rfl,hv,hst,hfre⟩,hgw5c⟩)
     have Hf5c:=Lib.hid (Hf5t.out.step hgw5c (fun _ _ h=>h));have sw5c:=hgw5c.size;have Hv:=Lib.hid hv;have hlt9:bb=true->∀ ad,m.a=some ad->m.l≠[]->ad.block<w5c.heap.size:=fun hb ad e hn=>((hst hb).cell ad e hn).2.1
     have HS3:=Lib.hid (And.intro hst (And.intro hfre hlt9));clear hv hcl hst hfre hlt9;refine OnlyN.mk ⟨hgw5c.mono (fun _ _ h=>h.elim),?_⟩;clear hgw5c
     repeat (first | (apply zM;exact rfl;exact rfl;exact rfl;intro K hK;go_big_quiet_op;go_big_quiet_on) | (apply zO;exact rfl;exact rfl;exact rfl;intro K hK;go_big_quiet_op;go_big_quiet_on))
     apply zH;exact rfl;obtain⟨w5a,hWw5a⟩:∃ w5a,w5a=w5c.alloc (.cells #[.string ⟨#[]⟩,.string ⟨#[]⟩,.int .i64 0,.int .i64 0,.int .i64 0,.int .i64 0,.slice none 0 0] 264):=⟨_,rfl⟩
     have hgw5a:Fr No w5c w5a:=by rw[hWw5a];exact(Fr.refl _ _).alloc _
     have qb:w5a.heap[w5c.heap.size]?=some (.cells #[.string ⟨#[]⟩,.string ⟨#[]⟩,.int .i64 0,.int .i64 0,.int .i64 0,.int .i64 0,.slice none 0 0] 264):=by rw[hWw5a];exact zD _ _
     have Hf5a:=Lib.hid (Hf5c.out.step hgw5a (fun _ _ h=>h.elim));have hbw:W1.heap.size<=w5c.heap.size:=Hf5c.out.size;have hbl:w5c.heap.size<w5a.heap.size:=zE qb;have sw5a:=hgw5a.size
     go_wp2_with fail
     refine OnlyN.mk ⟨((Fr.refl No _).alloc _).mono (fun _ _ h=>h.elim),?_⟩;rw[<-hWw5a];clear hWw5a;apply zH;exact rfl;obtain⟨f0,f1,f2,f3,f4,f5,f6⟩:=fl7 qb;obtain⟨z0,z1,z2,z3,z4,z5,z6⟩:=cl7 qb;have h7:=Lib.hid (set7 qb rfl (.string m.p) (.string m.i) (.int .i64 m.r) (.int .i64 m.s) (.int .i64 m.t) (.int .i64 m.e) (.slice m.a m.l.length m.c));clear qb
     go_wp2_with fail
     refine OnlyN.mk ⟨h7.out.2.mono (fun b _ h=>by unfold Is at h;unfold From;omega),?_⟩
     repeat (first | (apply zM;exact rfl;exact rfl;exact rfl;intro K hK;go_big_quiet_op;go_big_quiet_on) | (apply zO;exact rfl;exact rfl;exact rfl;intro K hK;go_big_quiet_op;go_big_quiet_on))
     obtain⟨w5,hw5⟩:∃ w5,w5=(((((((w5a.setCell ⟨w5c.heap.size,0,none⟩ (.string m.p)).setCell ⟨w5c.heap.size,1,none⟩ (.string m.i)).setCell ⟨w5c.heap.size,2,none⟩ (.int .i64 m.r)).setCell ⟨w5c.heap.size,3,none⟩ (.int .i64 m.s)).setCell ⟨w5c.heap.size,4,none⟩ (.int .i64 m.t)).setCell ⟨w5c.heap.size,5,none⟩ (.int .i64 m.e)).setCell ⟨w5c.heap.size,6,none⟩ (.slice m.a m.l.length m.c)):=⟨_,rfl⟩
     have h7b:=h7.out;rw[<-hw5]at h7b;rw[<-hw5];clear hw5 h7;have hT:=(Hf5a.out.mono (T:=From W1.heap.size) (fun _ _ h=>h.elim)).step h7b.2 (fun b hb h=>by unfold Is at h;unfold From;omega);have HN:Hid (Fr No wr w5):=hx1.step hT (fun b hb h=>by unfold From at h;omega);have q9:=h7b.1;have hm5:bb=true->Strs w5 m.a m.c m.l:=fun hb=>((HS3.out.1 hb).no hgw5a (fun _=>id)).fr h7b.2 (fun ad e hn hs=>by unfold Is at hs;have:=HS3.out.2.2 hb ad e hn;omega)
     have hnm5:bb=true->∀ ad,m.a=some ad->m.l≠[]->¬ (Value.slice av L.length cv).ownBlock=some ad.block:=fun hb ad e hn h=>by have:=hnb _ h;have:=HS3.out.2.1 hb ad e;omega
     have Hm5:=Lib.hid (And.intro hm5 hnm5);clear hm5 hnm5;clear hT h7b f0 f1 f2 f3 f4 f5 f6 z0 z1 z2 z3 z4 z5 z6;refine zS ?_;rcases Hv.out with⟨hb,hno⟩ | ⟨hb,hm⟩
     ·subst hb;have Hno:=Lib.hid hno;clear hno;clear q9;have HR:=Lib.hid (And.intro (zJ Hown.out HN.out (fun _ _=>id)) (And.intro (MOk.no Hok.out HN.out) (Hf.out.step HN.out (fun _ _ h=>h.elim))));have HL2:Hid (L.map Mem.k=(S.take (j+1)).filterMap fun s=>f s.o s.r (tx s.d)):=by unfold Hid;rw[Htk.out,List.filterMap_append,HL.out];simp[Hno.out]
      go_wp2_with fail
      go_roundw
      case rel=>exact⟨j+1,L,av,cv,by omega,by omega,rfl,by go_num,HR.out.1,HL2,HR.out.2.1,HR.out.2.2⟩
      case measure=>simp[intOf];omega
     ·subst hb;have Hsm:=Lib.hid hm;clear hm;obtain⟨x0,x1,x2,x3,x4,x5,x6⟩:=cl7 q9;have hown5:=zJ Hown.out HN.out (fun _ _=>id);have hs5:=HN.out.size;have Hown5:=Lib.hid hown5;clear q9;have HL2:Hid ((L++[m]).map Mem.k=(S.take (j+1)).filterMap fun s=>f s.o s.r (tx s.d)):=by unfold Hid;rw[Htk.out,List.filterMap_append,List.map_append,HL.out];simp[Hsm.out]
      go_wp2_with (at_builtin;refine wpList_append_own_at _ rfl _ _ 202 rfl w.heap.size 264 i0 (.agg #[.string ByteArray.empty,.string ByteArray.empty,.int .i64 0,.int .i64 0,.int .i64 0,.int .i64 0,.slice none 0 0]) 7 88 Tryz.underlying202 hi0 hz0 hz1 hz2 rfl (by decide) _ _ _ rfl (hown5.alloc _) ⟨w5.heap.size,0,none⟩ 1 1 (Mem.vals m).toList rfl rfl (zX _ (Mem.vals m) _ rfl) (zBt _) (by unfold maxLen;omega) (by omega) (by first | omega | (simp;done) | (simp;omega)) ?_;intro v' w9 hown9 hgrow9 _ hat9;obtain⟨av',cv',rfl⟩:=zG hown9)
      have hgf:Fr (fun b=>(Value.slice av L.length cv).ownBlock=some b) (w5.alloc (.cells (Mem.vals m) 264)) w9:=Fr.of_grown hgrow9;have hal:Fr No w5 (w5.alloc (.cells (Mem.vals m) 264)):=(Fr.refl _ _).alloc _;have h59:Fr (fun b=>(Value.slice av L.length cv).ownBlock=some b) w5 w9:=(hal.mono (fun _ _ h=>h.elim)).step hgf (fun b _ h=>h);have hok9:=((MOk.no Hok.out HN.out)).push (Hm5.out.1 rfl) (Hm5.out.2 rfl) h59 (hat9.imp id (fun e=>⟨_,e,by simp⟩));have HF:=Lib.hid (And.intro hown9 (And.intro hok9 ((Hf.out.step HN.out (fun _ _ h=>h.elim)).step h59 (fun b _ h=>zN Hown5.out h))));clear hown9 hgf hal h59 hok9 hat9 hgrow9 hown5
      go_roundw
      case rel=>exact⟨j+1,L++[m],av',cv',by omega,by simp;omega,by simp,by go_num,by rw[List.length_append,zBT];exact HF.out.1,HL2,(by rw[List.length_append];exact HF.out.2.1),HF.out.2.2⟩
      case measure=>simp[intOf];omega
    ·skip;obtain⟨w5a,hWw5a⟩:∃ w5a,w5a=w5t.alloc (.cells #[.string ⟨#[]⟩,.string ⟨#[]⟩,.int .i64 0,.int .i64 0,.int .i64 0,.int .i64 0,.slice none 0 0] 264):=⟨_,rfl⟩
     have hgw5a:Fr No w5t w5a:=by rw[hWw5a];exact(Fr.refl _ _).alloc _
     have qb:w5a.heap[w5t.heap.size]?=some (.cells #[.string ⟨#[]⟩,.string ⟨#[]⟩,.int .i64 0,.int .i64 0,.int .i64 0,.int .i64 0,.slice none 0 0] 264):=by rw[hWw5a];exact zD _ _
     have Hf5a:=Lib.hid (Hf5t.out.step hgw5a (fun _ _ h=>h.elim));have hbw:W1.heap.size<=w5t.heap.size:=Hf5t.out.size;have hbl:w5t.heap.size<w5a.heap.size:=zE qb;have sw5a:=hgw5a.size
     go_wp2_with fail
     refine OnlyN.mk ⟨((Fr.refl No _).alloc _).mono (fun _ _ h=>h.elim),?_⟩;rw[<-hWw5a];clear hWw5a;apply zH;exact rfl;have hcl:=HCL.out w5a (Hf1.out.step Hf5a.out (fun b hb h=>h.elim))
     go_wp2_with (go_at_fn F;refine hcl.mono ?_;rintro e w5c ⟨⟨m,bb,rfl,hv,hst,hfre⟩,hgw5c⟩)
     have Hf5c:=Lib.hid (Hf5a.out.step hgw5c (fun _ _ h=>h));have sw5c:=hgw5c.size;have Hv:=Lib.hid hv;have hlt9:bb=true->∀ ad,m.a=some ad->m.l≠[]->ad.block<w5c.heap.size:=fun hb ad e hn=>((hst hb).cell ad e hn).2.1
     have HS3:=Lib.hid (And.intro hst (And.intro hfre hlt9));clear hv hcl hst hfre hlt9;have qb:=hgw5c.heap qb id;refine OnlyN.mk ⟨hgw5c.mono (fun _ _ h=>h.elim),?_⟩;clear hgw5c
     repeat (first | (apply zM;exact rfl;exact rfl;exact rfl;intro K hK;go_big_quiet_op;go_big_quiet_on) | (apply zO;exact rfl;exact rfl;exact rfl;intro K hK;go_big_quiet_op;go_big_quiet_on))
     apply zH;exact rfl;obtain⟨f0,f1,f2,f3,f4,f5,f6⟩:=fl7 qb;obtain⟨z0,z1,z2,z3,z4,z5,z6⟩:=cl7 qb;have h7:=Lib.hid (set7 qb rfl (.string m.p) (.string m.i) (.int .i64 m.r) (.int .i64 m.s) (.int .i64 m.t) (.int .i64 m.e) (.slice m.a m.l.length m.c));clear qb
     go_wp2_with fail
     refine OnlyN.mk ⟨h7.out.2.mono (fun b _ h=>by unfold Is at h;unfold From;omega),?_⟩
     repeat (first | (apply zM;exact rfl;exact rfl;exact rfl;intro K hK;go_big_quiet_op;go_big_quiet_on) | (apply zO;exact rfl;exact rfl;exact rfl;intro K hK;go_big_quiet_op;go_big_quiet_on))
     obtain⟨w5,hw5⟩:∃ w5,w5=(((((((w5c.setCell ⟨w5t.heap.size,0,none⟩ (.string m.p)).setCell ⟨w5t.heap.size,1,none⟩ (.string m.i)).setCell ⟨w5t.heap.size,2,none⟩ (.int .i64 m.r)).setCell ⟨w5t.heap.size,3,none⟩ (.int .i64 m.s)).setCell ⟨w5t.heap.size,4,none⟩ (.int .i64 m.t)).setCell ⟨w5t.heap.size,5,none⟩ (.int .i64 m.e)).setCell ⟨w5t.heap.size,6,none⟩ (.slice m.a m.l.length m.c)):=⟨_,rfl⟩
     have h7b:=h7.out;rw[<-hw5]at h7b;rw[<-hw5];clear hw5 h7;have hT:=(Hf5c.out.mono (T:=From W1.heap.size) (fun _ _ h=>h.elim)).step h7b.2 (fun b hb h=>by unfold Is at h;unfold From;omega);have HN:Hid (Fr No wr w5):=hx1.step hT (fun b hb h=>by unfold From at h;omega);have q9:=h7b.1;have hm5:bb=true->Strs w5 m.a m.c m.l:=fun hb=>(HS3.out.1 hb).fr h7b.2 (fun ad e hn hs=>by unfold Is at hs;have:=HS3.out.2.1 hb ad e;omega)
     have hnm5:bb=true->∀ ad,m.a=some ad->m.l≠[]->¬ (Value.slice av L.length cv).ownBlock=some ad.block:=fun hb ad e hn h=>by have:=hnb _ h;have:=HS3.out.2.1 hb ad e;omega
     have Hm5:=Lib.hid (And.intro hm5 hnm5);clear hm5 hnm5;clear hT h7b f0 f1 f2 f3 f4 f5 f6 z0 z1 z2 z3 z4 z5 z6;refine zS ?_;rcases Hv.out with⟨hb,hno⟩ | ⟨hb,hm⟩
     ·subst hb;have Hno:=Lib.hid hno;clear hno;clear q9;have HR:=Lib.hid (And.intro (zJ Hown.out HN.out (fun _ _=>id)) (And.intro (MOk.no Hok.out HN.out) (Hf.out.step HN.out (fun _ _ h=>h.elim))));have HL2:Hid (L.map Mem.k=(S.take (j+1)).filterMap fun s=>f s.o s.r (tx s.d)):=by unfold Hid;rw[Htk.out,List.filterMap_append,HL.out];simp[Hno.out]
      go_wp2_with fail
      go_roundw
      case rel=>exact⟨j+1,L,av,cv,by omega,by omega,rfl,by go_num,HR.out.1,HL2,HR.out.2.1,HR.out.2.2⟩
      case measure=>simp[intOf];omega
     ·subst hb;have Hsm:=Lib.hid hm;clear hm;obtain⟨x0,x1,x2,x3,x4,x5,x6⟩:=cl7 q9;have hown5:=zJ Hown.out HN.out (fun _ _=>id);have hs5:=HN.out.size;have Hown5:=Lib.hid hown5;clear q9;have HL2:Hid ((L++[m]).map Mem.k=(S.take (j+1)).filterMap fun s=>f s.o s.r (tx s.d)):=by unfold Hid;rw[Htk.out,List.filterMap_append,List.map_append,HL.out];simp[Hsm.out]
      go_wp2_with (at_builtin;refine wpList_append_own_at _ rfl _ _ 202 rfl w.heap.size 264 i0 (.agg #[.string ByteArray.empty,.string ByteArray.empty,.int .i64 0,.int .i64 0,.int .i64 0,.int .i64 0,.slice none 0 0]) 7 88 Tryz.underlying202 hi0 hz0 hz1 hz2 rfl (by decide) _ _ _ rfl (hown5.alloc _) ⟨w5.heap.size,0,none⟩ 1 1 (Mem.vals m).toList rfl rfl (zX _ (Mem.vals m) _ rfl) (zBt _) (by unfold maxLen;omega) (by omega) (by first | omega | (simp;done) | (simp;omega)) ?_;intro v' w9 hown9 hgrow9 _ hat9;obtain⟨av',cv',rfl⟩:=zG hown9)
      have hgf:Fr (fun b=>(Value.slice av L.length cv).ownBlock=some b) (w5.alloc (.cells (Mem.vals m) 264)) w9:=Fr.of_grown hgrow9;have hal:Fr No w5 (w5.alloc (.cells (Mem.vals m) 264)):=(Fr.refl _ _).alloc _;have h59:Fr (fun b=>(Value.slice av L.length cv).ownBlock=some b) w5 w9:=(hal.mono (fun _ _ h=>h.elim)).step hgf (fun b _ h=>h);have hok9:=((MOk.no Hok.out HN.out)).push (Hm5.out.1 rfl) (Hm5.out.2 rfl) h59 (hat9.imp id (fun e=>⟨_,e,by simp⟩));have HF:=Lib.hid (And.intro hown9 (And.intro hok9 ((Hf.out.step HN.out (fun _ _ h=>h.elim)).step h59 (fun b _ h=>zN Hown5.out h))));clear hown9 hgf hal h59 hok9 hat9 hgrow9 hown5
      go_roundw
      case rel=>exact⟨j+1,L++[m],av',cv',by omega,by simp;omega,by simp,by go_num,by rw[List.length_append,zBT];exact HF.out.1,HL2,(by rw[List.length_append];exact HF.out.2.1),HF.out.2.2⟩
      case measure=>simp[intOf];omega
   ·skip;obtain⟨w5a,hWw5a⟩:∃ w5a,w5a=W3.alloc (.cells #[.string ⟨#[]⟩,.string ⟨#[]⟩,.int .i64 0,.int .i64 0,.int .i64 0,.int .i64 0,.slice none 0 0] 264):=⟨_,rfl⟩
    have hgw5a:Fr No W3 w5a:=by rw[hWw5a];exact(Fr.refl _ _).alloc _
    have qb:w5a.heap[W3.heap.size]?=some (.cells #[.string ⟨#[]⟩,.string ⟨#[]⟩,.int .i64 0,.int .i64 0,.int .i64 0,.int .i64 0,.slice none 0 0] 264):=by rw[hWw5a];exact zD _ _
    have Hf5a:=Lib.hid (Hf3.out.step hgw5a (fun _ _ h=>h.elim));have hbw:W1.heap.size<=W3.heap.size:=Hf3.out.size;have hbl:W3.heap.size<w5a.heap.size:=zE qb;have sw5a:=hgw5a.size
    go_wp2_with fail
    refine OnlyN.mk ⟨((Fr.refl No _).alloc _).mono (fun _ _ h=>h.elim),?_⟩;rw[<-hWw5a];clear hWw5a;apply zH;exact rfl
    go_wp2_with fail
    refine(HTX.out w5a (Hf1.out.step Hf5a.out (fun b hb h=>h.elim))).mono ?_;rintro e w5t ⟨rfl,hgw5t⟩;have Hf5t:=Lib.hid (Hf5a.out.step hgw5t (fun _ _ h=>h));have sw5t:=hgw5t.size
    go_wp2_with fail
    have qb:=hgw5t.heap qb id;refine OnlyN.mk ⟨hgw5t.mono (fun _ _ h=>h.elim),?_⟩;clear hgw5t;apply zH;exact rfl;have hcl:=HCL.out w5t (Hf1.out.step Hf5t.out (fun b hb h=>h.elim))
    go_wp2_with (go_at_fn F;refine hcl.mono ?_;rintro e w5c ⟨⟨m,bb,rfl,hv,hst,hfre⟩,hgw5c⟩)
    have Hf5c:=Lib.hid (Hf5t.out.step hgw5c (fun _ _ h=>h));have sw5c:=hgw5c.size;have Hv:=Lib.hid hv;have hlt9:bb=true->∀ ad,m.a=some ad->m.l≠[]->ad.block<w5c.heap.size:=fun hb ad e hn=>((hst hb).cell ad e hn).2.1
    have HS3:=Lib.hid (And.intro hst (And.intro hfre hlt9));clear hv hcl hst hfre hlt9;have qb:=hgw5c.heap qb id;refine OnlyN.mk ⟨hgw5c.mono (fun _ _ h=>h.elim),?_⟩;clear hgw5c
    repeat (first | (apply zM;exact rfl;exact rfl;exact rfl;intro K hK;go_big_quiet_op;go_big_quiet_on) | (apply zO;exact rfl;exact rfl;exact rfl;intro K hK;go_big_quiet_op;go_big_quiet_on))
    apply zH;exact rfl;obtain⟨f0,f1,f2,f3,f4,f5,f6⟩:=fl7 qb;obtain⟨z0,z1,z2,z3,z4,z5,z6⟩:=cl7 qb;have h7:=Lib.hid (set7 qb rfl (.string m.p) (.string m.i) (.int .i64 m.r) (.int .i64 m.s) (.int .i64 m.t) (.int .i64 m.e) (.slice m.a m.l.length m.c));clear qb
    go_wp2_with fail
    refine OnlyN.mk ⟨h7.out.2.mono (fun b _ h=>by unfold Is at h;unfold From;omega),?_⟩
    repeat (first | (apply zM;exact rfl;exact rfl;exact rfl;intro K hK;go_big_quiet_op;go_big_quiet_on) | (apply zO;exact rfl;exact rfl;exact rfl;intro K hK;go_big_quiet_op;go_big_quiet_on))
    obtain⟨w5,hw5⟩:∃ w5,w5=(((((((w5c.setCell ⟨W3.heap.size,0,none⟩ (.string m.p)).setCell ⟨W3.heap.size,1,none⟩ (.string m.i)).setCell ⟨W3.heap.size,2,none⟩ (.int .i64 m.r)).setCell ⟨W3.heap.size,3,none⟩ (.int .i64 m.s)).setCell ⟨W3.heap.size,4,none⟩ (.int .i64 m.t)).setCell ⟨W3.heap.size,5,none⟩ (.int .i64 m.e)).setCell ⟨W3.heap.size,6,none⟩ (.slice m.a m.l.length m.c)):=⟨_,rfl⟩
    have h7b:=h7.out;rw[<-hw5]at h7b;rw[<-hw5];clear hw5 h7;have hT:=(Hf5c.out.mono (T:=From W1.heap.size) (fun _ _ h=>h.elim)).step h7b.2 (fun b hb h=>by unfold Is at h;unfold From;omega);have HN:Hid (Fr No wr w5):=hx1.step hT (fun b hb h=>by unfold From at h;omega);have q9:=h7b.1;have hm5:bb=true->Strs w5 m.a m.c m.l:=fun hb=>(HS3.out.1 hb).fr h7b.2 (fun ad e hn hs=>by unfold Is at hs;have:=HS3.out.2.1 hb ad e;omega)
    have hnm5:bb=true->∀ ad,m.a=some ad->m.l≠[]->¬ (Value.slice av L.length cv).ownBlock=some ad.block:=fun hb ad e hn h=>by have:=hnb _ h;have:=HS3.out.2.1 hb ad e;omega
    have Hm5:=Lib.hid (And.intro hm5 hnm5);clear hm5 hnm5;clear hT h7b f0 f1 f2 f3 f4 f5 f6 z0 z1 z2 z3 z4 z5 z6;refine zS ?_;rcases Hv.out with⟨hb,hno⟩ | ⟨hb,hm⟩
    ·subst hb;have Hno:=Lib.hid hno;clear hno;clear q9;have HR:=Lib.hid (And.intro (zJ Hown.out HN.out (fun _ _=>id)) (And.intro (MOk.no Hok.out HN.out) (Hf.out.step HN.out (fun _ _ h=>h.elim))));have HL2:Hid (L.map Mem.k=(S.take (j+1)).filterMap fun s=>f s.o s.r (tx s.d)):=by unfold Hid;rw[Htk.out,List.filterMap_append,HL.out];simp[Hno.out]
     go_wp2_with fail
     go_roundw
     case rel=>exact⟨j+1,L,av,cv,by omega,by omega,rfl,by go_num,HR.out.1,HL2,HR.out.2.1,HR.out.2.2⟩
     case measure=>simp[intOf];omega
    ·subst hb;have Hsm:=Lib.hid hm;clear hm;obtain⟨x0,x1,x2,x3,x4,x5,x6⟩:=cl7 q9;have hown5:=zJ Hown.out HN.out (fun _ _=>id);have hs5:=HN.out.size;have Hown5:=Lib.hid hown5;clear q9;have HL2:Hid ((L++[m]).map Mem.k=(S.take (j+1)).filterMap fun s=>f s.o s.r (tx s.d)):=by unfold Hid;rw[Htk.out,List.filterMap_append,List.map_append,HL.out];simp[Hsm.out]
     go_wp2_with (at_builtin;refine wpList_append_own_at _ rfl _ _ 202 rfl w.heap.size 264 i0 (.agg #[.string ByteArray.empty,.string ByteArray.empty,.int .i64 0,.int .i64 0,.int .i64 0,.int .i64 0,.slice none 0 0]) 7 88 Tryz.underlying202 hi0 hz0 hz1 hz2 rfl (by decide) _ _ _ rfl (hown5.alloc _) ⟨w5.heap.size,0,none⟩ 1 1 (Mem.vals m).toList rfl rfl (zX _ (Mem.vals m) _ rfl) (zBt _) (by unfold maxLen;omega) (by omega) (by first | omega | (simp;done) | (simp;omega)) ?_;intro v' w9 hown9 hgrow9 _ hat9;obtain⟨av',cv',rfl⟩:=zG hown9)
     have hgf:Fr (fun b=>(Value.slice av L.length cv).ownBlock=some b) (w5.alloc (.cells (Mem.vals m) 264)) w9:=Fr.of_grown hgrow9;have hal:Fr No w5 (w5.alloc (.cells (Mem.vals m) 264)):=(Fr.refl _ _).alloc _;have h59:Fr (fun b=>(Value.slice av L.length cv).ownBlock=some b) w5 w9:=(hal.mono (fun _ _ h=>h.elim)).step hgf (fun b _ h=>h);have hok9:=((MOk.no Hok.out HN.out)).push (Hm5.out.1 rfl) (Hm5.out.2 rfl) h59 (hat9.imp id (fun e=>⟨_,e,by simp⟩));have HF:=Lib.hid (And.intro hown9 (And.intro hok9 ((Hf.out.step HN.out (fun _ _ h=>h.elim)).step h59 (fun b _ h=>zN Hown5.out h))));clear hown9 hgf hal h59 hok9 hat9 hgrow9 hown5
     go_roundw
     case rel=>exact⟨j+1,L++[m],av',cv',by omega,by simp;omega,by simp,by go_num,by rw[List.length_append,zBT];exact HF.out.1,HL2,(by rw[List.length_append];exact HF.out.2.1),HF.out.2.2⟩
     case measure=>simp[intOf];omega
  ·obtain rfl:j=S.length:=by omega
   have hlt':¬ (S.length:Int)<S.length:=by omega
   obtain⟨a2,c2,hv,hR,hfr2⟩:=Mems.of_own hown (fun m hm=>(hok m hm).1);cases hv;have HL2:Hid (L.map Mem.k=S.filterMap fun s=>f s.o s.r (tx s.d)):=by unfold Hid;rw[HL.out,List.take_length]
   have H:=Lib.hid (And.intro hR (And.intro hfr2 (hf.mono (T:=No) (fun b hb h=>by unfold From at h;omega))));clear hown hf hR hfr2 hok hSr
   go_wp2_with fail
   go_ret;exact⟨⟨L,HL2.out,av,cv,rfl,H.out.1,H.out.2.1⟩,H.out.2.2⟩
end Go.Proofs.YtmajgldaplkpiaaGreatDoor
