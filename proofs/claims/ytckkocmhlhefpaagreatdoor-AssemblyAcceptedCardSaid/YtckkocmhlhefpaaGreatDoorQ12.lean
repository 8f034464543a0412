import Derived.Test.YtckkocmhlhefpaaGreatDoorQ9
import Derived.Test.YtckkocmhlhefpaaGreatDoorShelf2
namespace Go.Proofs.YtckkocmhlhefpaaGreatDoor
open Go.RowKit Go.Maps Go.Sort Go.Shelf
set_option linter.unusedVariables false
set_option maxRecDepth 100000
set_option maxHeartbeats 2000000
open Fr renaming refl->ao
open Go renaming World->ac,Value->ah,Calls->ak
open Go.Fence renaming wide->ar
open Go.Lib renaming compareBytes->af,join->ap,hasPrefix->b0,trimPrefix->b1
open Go.Maps renaming size->ax
open Go.Proofs.Tryz renaming prog->ai,func244->ay,ntmps244->az,keysT->b9,underlying9->ba
open Go.RowKit renaming Hid->ae
open IntKind renaming i64->C
open Obj renaming cells->a9
open Value renaming int->E,string->M,slice->aj,agg->am,pointer->aq
open _root_ renaming Int->Q,ByteArray->G,List->B,Nat->K,Option->d,if_neg->a1,UInt8->aa,if_pos->ag,absurd->an
open _root_.Bool renaming true->a8,false->ab
open _root_.List renaming range->al,getElem?_map->au,length_map->av,map_map->aw,filter_sublist->b2,foldl_append->b3,getElem?_eq_getElem->b4,length_range->b5,map_congr_left->b6,map_id->b7,take_add_one->b8
open _root_.Option renaming some->q,none->a0
open _root_.UInt8 renaming le_antisymm->bb
variable{u:K}{o:G}{zs:B Q}{w w':ac}{a:d Addr}{S:K->Prop}
def pathO (s t:G):Q:=if zk s then (if zk t then cmpN (sparts s) (sparts t)else -1)else if zk t then 1 else af s.data.toList t.data.toList
theorem zIx (s t:G)(m:Q)(w:ac)(Z:s.size<=1000000)(ht:t.size<=1000000)(V:w.cell? ⟨0,0,a0⟩=q (E C m)):
  ak ai 244 #[M s,M t] w λe w'=>e=.returned (E C (pathO s t))/\Fr No w w':=by
 obtain⟨r,h1⟩:∃ r,r=pathO s t:=⟨_,rfl⟩
 rw[<-h1];have Y:=zh h1;clear h1;have y:=zDE s t m w Z ht V;cases hg1:zk s with
 | true=>
  have I:=zh hg1;clear hg1;cases hg2:zk t with
  | true=>
   have X:=zh hg2;clear hg2;have N:cmpP s t=(r,0):=by rw[cmpP,Y.out,pathO,I.out,X.out];rfl
   rw[N]at y;clear N
   go_enter ay,az
   go_wp2_with fail
   refine y.mono ?_;rintro e w1 ⟨rfl,h⟩;have z:=zh h;clear h
   go_wp2_with fail
   go_ret;exact⟨rfl,z.out⟩
  | false=>
   have X:=zh hg2;clear hg2;have N:cmpP s t=(0,10):=by rw[cmpP,I.out,X.out];rfl
   rw[N]at y;clear N;have A:ae (r=-1):=by unfold ae;rw[Y.out,pathO,I.out,X.out];rfl
   go_enter ay,az
   go_wp2_with fail
   refine y.mono ?_;rintro e w1 ⟨rfl,h⟩;have u:=h.cell V id;have z:=zh h;clear h V
   go_wp2_with fail
   refine(zBi s m _ Z u).mono ?_;rintro e w2 ⟨O,v⟩;have D:=v.cell u id;have R:=zh (z.out.step v zi);clear v u;rcases O with⟨o,rfl⟩|⟨o,a2,rfl,_,_⟩
   .rw[I.out]at o;cases o
   .clear o
    go_wp2_with fail
    refine(zBi t m _ ht D).mono ?_;rintro e w3 ⟨U,F⟩;have J:=zh (R.out.step F zi);clear F D;rcases U with⟨o,rfl⟩|⟨o,a3,rfl,_,_⟩
    .clear o
     go_wp2_with fail
     go_ret;exact⟨by rw[A.out];rfl,J.out⟩
    .rw[X.out]at o;cases o
 | false=>
  have I:=zh hg1;clear hg1;have N:cmpP s t=(0,10):=by rw[cmpP,I.out];rfl
  rw[N]at y;clear N
  go_enter ay,az
  go_wp2_with fail
  refine y.mono ?_;rintro e w1 ⟨rfl,h⟩;have u:=h.cell V id;have z:=zh h;clear h V
  go_wp2_with fail
  refine(zBi s m _ Z u).mono ?_;rintro e w2 ⟨O,v⟩;have D:=v.cell u id;have R:=zh (z.out.step v zi);clear v u;rcases O with⟨o,rfl⟩|⟨o,a2,rfl,_,_⟩
  .clear o
   go_wp2_with fail
   refine(zBi t m _ ht D).mono ?_;rintro e w3 ⟨U,F⟩;have J:=zh (R.out.step F zi);clear F D;rcases U with⟨o,rfl⟩|⟨o,a3,rfl,_,_⟩
   .have A:ae (r=af s.data.toList t.data.toList):=by unfold ae;rw[Y.out,pathO,I.out,o];rfl
    clear o
    go_wp2_with fail
    refine(zKt s t _).mono ?_;rintro e w4 ⟨rfl,rfl⟩;rw[<-A.out]
    go_wp2_with fail
    go_ret;exact⟨rfl,J.out⟩
   .have A:ae (r=1):=by unfold ae;rw[Y.out,pathO,I.out,o];rfl
    clear o
    go_wp2_with fail
    go_ret;exact⟨by rw[A.out];rfl,J.out⟩
  .rw[I.out]at o;cases o
def aheadB (p:G)(r:Q)(p':G)(r':Q):Bool:=decide (orI (cmpI r r') (pathO p p')<0)
theorem zH9 (p i u D:G)(r s t e r' F I J:Q)(v N:ah)(m:Q)(w:ac)(hs:p.size<=1000000)(ht:u.size<=1000000)(hm:w.cell? ⟨0,0,a0⟩=q (E C m)):
  ak ai 203 #[am #[M p,M i,E C r,E C s,E C t,E C e,v],am #[M u,M D,E C r',E C F,E C I,E C J,N]] w λX w'=>X=.returned (.bool (aheadB p r u r'))/\Fr No w w':=by
 have Y:Fr No w ((w.alloc (a9 #[M p,M i,E C r,E C s,E C t,E C e,v] 232)).alloc (a9 #[M u,M D,E C r',E C F,E C I,E C J,N] 232)):=((ao _ _).alloc _).alloc _;have Z:=zO w (a9 #[M p,M i,E C r,E C s,E C t,E C e,v] 232) (a9 #[M u,M D,E C r',E C F,E C I,E C J,N] 232);have q2:=zR w (a9 #[M p,M i,E C r,E C s,E C t,E C e,v] 232) (a9 #[M u,M D,E C r',E C F,E C I,E C J,N] 232);obtain⟨W0,y⟩:∃ W0,W0=(w.alloc (a9 #[M p,M i,E C r,E C s,E C t,E C e,v] 232)).alloc (a9 #[M u,M D,E C r',E C F,E C I,E C J,N] 232):=⟨_,rfl⟩
 rw[<-y]at Y Z q2;have O:=Y.cell hm id;have H0:=zh Y;obtain⟨rb,z⟩:∃ rb,rb=aheadB p r u r':=⟨_,rfl⟩
 rw[<-z];have a2:=zh z;clear Y hm z
 go_enter Tryz.func203,Tryz.ntmps203
 go_upto_region 1 with(fail)
 rw[<-y];clear y;refine zQ No [(0,ab),(1,ab),(2,ab),(3,ab),(5,ab),(6,ab),(7,ab),(8,ab),(4,a8),(9,a8),(10,a8),(11,a8),(12,ab),(13,ab)] (by kernel_rfl) (by kernel_rfl) (λw0 h=>?_);have g0:∀ g:Gr No w0,g.W.cell? ⟨w,0,a0⟩=q (M p):=λg=>g.fr.cell (h.cell (zB Z 0) id) id
 have g2:∀ g:Gr No w0,g.W.cell? ⟨w,2,a0⟩=q (E C r):=λg=>g.fr.cell (h.cell (zB Z 2) id) id
 have k0:∀ g:Gr No w0,g.W.cell? ⟨(w:K)+1,0,a0⟩=q (M u):=λg=>g.fr.cell (h.cell (zB q2 0) id) id
 have k2:∀ g:Gr No w0,g.W.cell? ⟨(w:K)+1,2,a0⟩=q (E C r'):=λg=>g.fr.cell (h.cell (zB q2 2) id) id
 have R:=h.cell O id;have a3:=zh (H0.out.step h zi);clear Z q2 O h
 repeat (apply zT rfl rfl rfl;intro a6 hK;go_big_quiet_op;go_big_quiet_on)
 clear g0 g2 k0 k2;apply zt;exact rfl
 go_wp2_with fail
 refine(zKu r r' _).mono ?_;rintro X w1 ⟨rfl,rfl⟩;generalize U:cmpI r r'=c1
 go_wp2_with fail
 refine zq ?_;apply zt;exact rfl
 go_wp2_with fail
 refine(zIx p u m _ hs ht R).mono ?_;rintro X w2 ⟨rfl,A⟩;generalize V:pathO p u=c2;have a4:=zh (a3.out.step A zi);have Hc:ae (rb=decide (orI c1 c2<0)):=by unfold ae;rw[a2.out,aheadB,U,V]
 clear U V R
 go_wp2_with fail
 refine zf A ?_;clear A;apply zt;exact rfl
 go_wp2_with fail
 have hx:Fr No w2 (w2.alloc (a9 #[E C c1,E C c2] 3)):=(ao _ _).alloc _;have qx:=zF w2 (a9 #[E C c1,E C c2] 3);refine zf hx ?_;have a5:=zh (a4.out.step hx zi);clear hx;apply zt;exact rfl
 go_wp2_with fail
 refine(zOl _ c1 c2 _ (zB qx 0) (zB qx 1)).mono ?_;rintro X w3 ⟨rfl,rfl⟩;generalize orI c1 c2=o at *
 go_wp2_with fail
 refine zq ?_
 repeat (apply zT rfl rfl rfl;intro a6 hK;go_big_quiet_op;go_big_quiet_on)
 refine zb ?_
 go_wp2_with fail
 go_ret;exact⟨by rw[Hc.out];rfl,a5.out⟩
theorem zNr (p i h u:G)(r s t e r' y z A:Q)(v D:ah)(m:Q)(w:ac)(N:p.size<=1000000)(O:h.size<=1000000)(R:w.cell? ⟨0,0,a0⟩=q (E C m)):
  ak ai 206 #[am #[M p,M i,E C r,E C s,E C t,E C e,v],am #[M h,M u,E C r',E C y,E C z,E C A,D]] w λJ w'=>J=.returned (.bool (aheadB p r h r'))/\Fr No w w':=by
 have F:Fr No w ((w.alloc (a9 #[M p,M i,E C r,E C s,E C t,E C e,v] 285)).alloc (a9 #[M h,M u,E C r',E C y,E C z,E C A,D] 232)):=((ao _ _).alloc _).alloc _;have I:=F.cell R id;have U:=zH9 p i h u r s t e r' y z A v D m _ N O I;have V:=zh F;clear F
 go_enter Tryz.func206,Tryz.ntmps206
 go_wp2_with fail
 refine U.mono ?_;rintro J Y ⟨rfl,o⟩;have X:=zh (V.out.step o zi);clear o
 go_wp2_with fail
 go_ret;exact⟨rfl,X.out⟩
structure Mem where
 p:G
 i:G
 r:Q
 s:Q
 t:Q
 e:Q
 a:d Addr
 l:B G
 c:K
def Mem.vals (m:Mem):Array ah:=#[M m.p,M m.i,E C m.r,E C m.s,E C m.t,E C m.e,aj m.a m.l.length m.c]
def Mem.v (m:Mem):ah:=am m.vals
def Mem.k (m:Mem):Mem:={ m with a:=a0,c:=0 }
def Mem.zero : Mem:=⟨⟨#[]⟩,⟨#[]⟩,0,0,0,0,a0,[],0⟩
def ahead (m o:Mem):Bool:=aheadB m.p m.r o.p o.r
def bestS (g:B aa->d Mem)(m:Mem):B aa->d Mem:=λx=>
 if (m.l.length==1&&x==kb m.i&&(match g x with|none=>a8|some o=>ahead m o))=a8 then q m else g x
def best (L:B Mem):B aa->d Mem:=L.foldl bestS λ_=>a0
theorem zBn (L:B Mem)(m:Mem):best (L++[m])=bestS (best L) m:=by simp[best,b3]
theorem zJJ {g:B aa->d Mem}{m:Mem}(h:m.l.length≠1):bestS g m=g:=by
 funext x;unfold bestS;rw[a1 (by simp[h])]
theorem zJK {g:B aa->d Mem}{m o:Mem}(u:g (kb m.i)=q o)(h:ahead m o=ab):bestS g m=g:=by
 funext x;unfold bestS
 by_cases e:x=kb m.i
 .subst e;rw[u];simp[h]
 .rw[a1 (by simp[e])]
theorem zE4 {g:B aa->d Mem}{m:Mem}(u:m.l.length=1)(h:∀ o,g (kb m.i)=q o->ahead m o=a8):bestS g m=λx=>if x=kb m.i then q m else g x:=by
 funext x;unfold bestS
 by_cases e:x=kb m.i
 .subst e;rw[ag rfl];rcases hg:g (kb m.i)with _|o
  .simp[u]
  .simp[u,h o hg]
 .rw[a1 (by simp[e]),a1 e]
theorem zG1 {α:Type}{P:B α->Prop}(h:P [])(o:∀ l x,P l->P (l++[x]))(l:B α):P l:=by
 have:∀ l:B α,P l.reverse:=by
  intro l
  induction l with
  | nil=>exact h
  | cons x t u=>rw[List.reverse_cons];exact o _ _ u
 simpa using this l.reverse
theorem zHO (g:B aa->d Mem)(m:Mem)(x:B aa):(bestS g m x=q m/\m.l.length=1/\x=kb m.i/\∀ o,g x=q o->ahead m o=a8)\/(bestS g m x=g x/\(m.l.length=1->x=kb m.i->∃ o,g x=q o/\ahead m o=ab)):=by
 by_cases u:m.l.length=1
 .by_cases v:x=kb m.i
  .rcases hg:g x with _|o
   .refine .inl ⟨?_,u,v,λo y=>by cases y⟩;unfold bestS;rw[hg];simp[u,v]
   .cases ha:ahead m o with
    | true=>
     refine .inl ⟨?_,u,v,λz y=>by cases y;exact ha⟩;unfold bestS;rw[hg];simp[u,v,ha]
    | false=>
     refine .inr ⟨?_,λ_ _=>⟨o,rfl,ha⟩⟩;unfold bestS;rw[hg];simp[ha]
  .refine .inr ⟨?_,λ_ h=>an h v⟩;unfold bestS;rw[a1 (by simp[v])]
 .refine .inr ⟨?_,λh=>an h u⟩;unfold bestS;rw[a1 (by simp[u])]
theorem zCp (L:B Mem):∀ x m,best L x=q m->m∈L/\m.l.length=1/\kb m.i=x:=by
 refine zG1 (P:=λL=>∀ x m,best L x=q m->m∈L/\m.l.length=1/\kb m.i=x) ?_ ?_ L
 .intro x m h;cases h
 .intro l y u x m h;rw[zBn]at h;rcases zHO (best l) y x with⟨o,v,z,_⟩|⟨o,_⟩
  .rw[o]at h;cases h;exact⟨by simp,v,z.symm⟩
  .rw[o]at h;obtain⟨a,b⟩:=u x m h;exact⟨by simp[a],b⟩
structure IsIds (L:B Mem)(ids:B G):Prop where
 asc:AscS (ids.map kb)
 mem:∀ x:G,x∈ids↔(best L (kb x)).isSome=a8
theorem zB3 : ∀ {l l':B G},l.map kb=l'.map kb->l=l'
 | [],[],_=>rfl
 | [],_::_,h=>by simp at h
 | _::_,[],h=>by simp at h
 | x::s,y::t,h=>by
  simp only[List.map_cons,List.cons.injEq]at h;rw[zGQ h.1,zB3 h.2]
theorem zMs {l:B G}{x:B aa}:x∈l.map kb↔bk x∈l:=by
 constructor
 .intro h;obtain⟨y,o,rfl⟩:=List.mem_map.1 h
  rwa [zFo]
 .intro h;exact List.mem_map.2 ⟨_,h,zI6 x⟩
def own1 (L:B Mem)(ids:B G):B Mem:=ids.map λx=>((best L (kb x)).getD Mem.zero).k
structure IsCmp {α:Type}(c:α->α->Q):Prop where
 zero:∀ x y,c x y=0->x=y
 turn:∀ x y,c y x=- c x y
 trans:∀ x y z,c x y<0->c y z<0->c x z<0
theorem zFl : ∀ a b:B aa,af b a=- af a b
 | [],[]=>rfl
 | [],_::_=>rfl
 | _::_,[]=>rfl
 | a::s,b::t=>by
  have v:=zFl s t;unfold af;by_cases o:a<b
  .have u:¬ b<a:=λh=>UInt8.lt_asymm o h
   simp[o,u]
  .by_cases u:b<a
   .simp[o,u]
   .simp[o,u,v]
theorem zFm : ∀ a b c:B aa,af a b<0->af b c<0->af a c<0
 | [],[],_,h,_=>by simp[af]at h
 | [],_::_,[],_,h=>by simp[af]at h
 | [],_::_,_::_,_,_=>by simp[af]
 | _::_,[],_,h,_=>by simp[af]at h
 | _::_,_::_,[],_,h=>by simp[af]at h
 | a::s,b::t,c::u,h,o=>by
  have D:=zFm s t u;unfold af at h o ⊢;by_cases z:a<b
  .by_cases v:b<c
   .rw[ag (UInt8.lt_trans z v)];decide
   .rw[a1 v]at o;by_cases y:c<b
    .rw[ag y]at o;omega
    .have e:b=c:=bb (UInt8.not_lt.1 y) (UInt8.not_lt.1 v);subst e;rw[ag z];decide
  .rw[a1 z]at h;by_cases y:b<a
   .rw[ag y]at h;omega
   .have e:a=b:=bb (UInt8.not_lt.1 y) (UInt8.not_lt.1 z);subst e;rw[a1 y]at h;by_cases v:a<c
    .rw[ag v];decide
    .rw[a1 v]at o ⊢;by_cases A:c<a
     .rw[ag A]at o;omega
     .rw[a1 A]at o ⊢;exact D h o
theorem zK7 {x y:G}(h:x.data.toList=y.data.toList):x=y:=by
 cases x;cases y;simp only at h
 congr 1
 exact Array.toList_inj.1 h
theorem zKs : ∀ a b:B G,cmpN b a=- cmpN a b
 | [],[]=>rfl
 | [],_::_=>rfl
 | _::_,[]=>rfl
 | a::s,b::t=>by
  have o:=zKs s t;unfold cmpN;by_cases h:a=b
  .subst h;simp[o]
  .rw[a1 h,a1 (Ne.symm h)];exact zFl _ _
theorem zIT : ∀ a b c:B G,cmpN a b<0->cmpN b c<0->cmpN a c<0
 | [],[],_,h,_=>by simp[cmpN]at h
 | [],_::_,[],_,h=>by simp[cmpN]at h
 | [],_::_,_::_,_,_=>by simp[cmpN]
 | _::_,[],_,h,_=>by simp[cmpN]at h
 | _::_,_::_,[],_,h=>by simp[cmpN]at h
 | a::s,b::t,c::u,h,o=>by
  have A:=zIT s t u;unfold cmpN at h o ⊢;by_cases y:a=b
  .subst y;rw[ag rfl]at h;by_cases v:a=c
   .subst v;rw[ag rfl]at o ⊢;exact A h o
   .rw[a1 v]at o ⊢;exact o
  .rw[a1 y]at h;by_cases v:b=c
   .subst v;rw[a1 y];exact h
   .rw[a1 v]at o;have D:=zFm _ _ _ h o;by_cases z:a=c
    .subst z;have:=zFl a.data.toList b.data.toList;omega
    .rw[a1 z];exact D
theorem zHi (c:aa):∀ s:B aa,ap (spl c s) [c]=s
 | []=>rfl
 | x::t=>by
  have o:=zHi c t;unfold spl;split
  .rename_i e;subst e;rcases h:spl x t with _|⟨a,r⟩
   .exact an h (zMn _ _)
   .rw[h]at o;simp[ap]at o ⊢;exact o
  .rcases h:spl c t with _|⟨a,r⟩
   .exact an h (zMn _ _)
   .rw[h]at o;cases r with
    | nil=>simp[ap]at o ⊢;exact o
    | cons b r=>simp[ap]at o ⊢;exact o
theorem zME {s t:G}(v:zk s=a8)(A:zk t=a8)(h:sparts s=sparts t):s=t:=by
 unfold zk at v A;simp only[Bool.and_eq_true]at v A;have o:∀ x:G,b0 x.data.toList [47]=a8->x.data.toList=47::ap ((sparts x).map λy=>y.data.toList) [47]:=by
  intro x u;have D:(sparts x).map (λy=>y.data.toList)=spl 47 (b1 x.data.toList [47]):=by
   unfold sparts;rw[aw];have:((λy:G=>y.data.toList)∘λx:B aa=>(⟨x.toArray⟩:G))=id:=by funext z;simp
   rw[this,b7]
  rw[D,zHi];unfold b1;rw[ag u];unfold b0 at u;rcases hl:x.data.toList with _|⟨a,r⟩
  .rw[hl]at u;simp at u
  .rw[hl]at u;simp at u;simp[<-u]
 apply zK7;rw[o s v.1,o t A.1,h]
theorem zDM: IsCmp pathO:=by
 refine⟨λs t h=>?_,λs t=>?_,λs t u h o=>?_⟩
 .unfold pathO at h;cases hs:zk s<;>cases ht:zk t<;>simp[hs,ht]at h
  .exact zK7 (zAO _ _ h)
  .exact zME hs ht (zGg _ _ h)
 .unfold pathO;cases hs:zk s<;>cases ht:zk t<;>simp
  .exact zFl _ _
  .exact zKs _ _
 .unfold pathO at h o ⊢;cases hs:zk s<;>cases ht:zk t<;>cases hu:zk u<;>simp[hs,ht,hu]at h o ⊢
  .exact zFm _ _ _ h o
  .exact zIT _ _ _ h o
def zAl (good:Mem->Bool)(g:G×Q->d Mem)(m:Mem):G×Q->d Mem:=λx=>
 if (good m&&decide (x=(m.i,m.s))&&(match g x with|none=>a8|some o=>ahead m o))=a8 then q m else g x
def zv (good:Mem->Bool)(L:B Mem):G×Q->d Mem:=L.foldl (zAl good) λ_=>a0
section
variable {good:Mem->Bool}
theorem zAr (L:B Mem)(m:Mem):zv good (L++[m])=zAl good (zv good L) m:=by simp[zv,b3]
theorem zGh (g:G×Q->d Mem)(m:Mem)(x:G×Q):(zAl good g m x=q m/\good m=a8/\x=(m.i,m.s)/\∀ o,g x=q o->ahead m o=a8)\/(zAl good g m x=g x/\(good m=a8->x=(m.i,m.s)->∃ o,g x=q o/\ahead m o=ab)):=by
 by_cases u:good m=a8
 .by_cases v:x=(m.i,m.s)
  .rcases hg:g x with _|o
   .refine .inl ⟨?_,u,v,λo y=>by cases y⟩;unfold zAl;rw[hg];simp[u,v]
   .cases ha:ahead m o with
    | true=>
     refine .inl ⟨?_,u,v,λz y=>by cases y;exact ha⟩;unfold zAl;rw[hg];simp[u,v,ha]
    | false=>
     refine .inr ⟨?_,λ_ _=>⟨o,rfl,ha⟩⟩;unfold zAl;rw[hg];simp[ha]
  .refine .inr ⟨?_,λ_ h=>an h v⟩;unfold zAl;rw[a1 (by simp[v])]
 .refine .inr ⟨?_,λh=>an h u⟩;unfold zAl;rw[a1 (by simp[u])]
theorem zEM {g:G×Q->d Mem}{m:Mem}(h:good m=ab):zAl good g m=g:=by
 funext x;unfold zAl;rw[a1 (by simp[h])]
theorem zHP {g:G×Q->d Mem}{m o:Mem}(u:g (m.i,m.s)=q o)(h:ahead m o=ab):zAl good g m=g:=by
 funext x;unfold zAl
 by_cases e:x=(m.i,m.s)
 .subst e;rw[u];simp[h]
 .rw[a1 (by simp[e])]
theorem zCI {g:G×Q->d Mem}{m:Mem}(u:good m=a8)(h:∀ o,g (m.i,m.s)=q o->ahead m o=a8):zAl good g m=λx=>if x=(m.i,m.s)then q m else g x:=by
 funext x;unfold zAl
 by_cases e:x=(m.i,m.s)
 .subst e;rw[ag rfl];rcases hg:g (m.i,m.s)with _|o
  .simp[u]
  .simp[u,h o hg]
 .rw[a1 (by simp[e]),a1 e]
theorem zAk (L:B Mem):∀ x m,zv good L x=q m->m∈L/\good m=a8/\(m.i,m.s)=x:=by
 refine zG1 (P:=λL=>∀ x m,zv good L x=q m->m∈L/\good m=a8/\(m.i,m.s)=x) ?_ ?_ L
 .intro x m h;cases h
 .intro l y u x m h;rw[zAr]at h;rcases zGh (zv good l) y x with⟨o,v,z,_⟩|⟨o,_⟩
  .rw[o]at h;cases h;exact⟨by simp,v,z.symm⟩
  .rw[o]at h;obtain⟨a,b⟩:=u x m h;exact⟨by simp[a],b⟩
end
def soundB (m:Mem):Bool:=!m.p.toList.isEmpty&&(decide (1<=m.s)&&decide (m.s<=16))&&(decide (1<=m.t)&&decide (m.t<=16))
structure Arr where
 i:G
 ps:B G
 t:Q
 e:Q
 n:Q
 l:B G
def zAw (b:G×Q->d Mem)(id:G):Q:=(((al 16).find? λ(k:K)=>(b (id,(k:Q)+1)).isSome).getD 0:K)+1
def zAX (b:G×Q->d Mem)(id:G):Mem:=(b (id,zAw b id)).getD Mem.zero
def pathAt (b:G×Q->d Mem)(id:G)(k:K):G:=match b (id,(k:Q)+1)with|some m=>m.p|none=>⟨#[]⟩
def buildA (b:G×Q->d Mem)(id:G):Arr:=
 ⟨id,(al (zAX b id).t.toNat).map (pathAt b id),(zAX b id).t,(zAX b id).e,((al (zAX b id).t.toNat).filter λ(k:K)=>(b (id,(k:Q)+1)).isSome).length,(zAX b id).l⟩
structure IsIds2 (b:G×Q->d Mem)(ids:B G):Prop where
 asc:AscS (ids.map kb)
 mem:∀ x:G,x∈ids↔∃ s:Q,(b (x,s)).isSome=a8
theorem IsIds2.unique {b:G×Q->d Mem}{u o:B G}(h:IsIds2 b u)(v:IsIds2 b o):u=o:=by
 refine zB3 (AscS.ext h.asc v.asc λx=>?_);rw[zMs,zMs,h.mem,v.mem]
structure IsSlots (b:G×Q->d Mem)(id:G)(zs:B Q):Prop where
 nodup:zs.Nodup
 mem:∀ s:Q,s∈zs↔(b (id,s)).isSome=a8
theorem zFZ {b:G×Q->d Mem}{u:G}(h:IsSlots b u zs)(y:∀ s∈zs,1<=s/\s<=16){m:Q}(v:m∈zs)(o:∀ s∈zs,m<=s):zAw b u=m:=by
 unfold zAw;obtain⟨A,D⟩:=y m v;obtain⟨k,rfl⟩:∃ k:K,m=(k:Q)+1:=⟨(m-1).toNat,by omega⟩
 have z:(al 16).find? (λ(k:K)=>(b (u,(k:Q)+1)).isSome)=q k:=by
  rw[List.find?_range_eq_some];refine⟨(h.mem _).1 v,List.mem_range.2 (by omega),λj F=>?_⟩;cases hb:(b (u,(j:Q)+1)).isSome with
  | false=>rfl
  | true=>
   have:=o _ ((h.mem _).2 hb);omega
 rw[z];rfl
def psJ (b:G×Q->d Mem)(id:G)(T:K)(zs:B Q):B G:=(al T).map λ(k:K)=>if ((k:Q)+1)∈zs then pathAt b id k else ⟨#[]⟩
def cntJ (T:Q)(zs:B Q):K:=(zs.filter λs=>decide (s<=T)).length
theorem zFL (b:G×Q->d Mem)(h:G)(T:K)(zs:B Q):(psJ b h T zs).length=T:=by simp[psJ]
theorem zNe (b:G×Q->d Mem)(h:G)(T:K):psJ b h T []=List.replicate T ⟨#[]⟩:=by
 unfold psJ;simp only[List.not_mem_nil,if_false];rw[List.map_const',b5]
theorem zNd (b:G×Q->d Mem)(h:G)(T:K)(zs:B Q)(k:K)(v:k<T):psJ b h T (zs++[(k:Q)+1])=(psJ b h T zs).set k (pathAt b h k):=by
 apply List.ext_getElem?;intro j;rw[List.getElem?_set];unfold psJ;by_cases o:j<T
 .simp only[au,List.getElem?_range o,Option.map_some,av,b5];by_cases e:k=j
  .subst e;simp[o]
  .have:((j:Q)+1∈zs++[(k:Q)+1])↔(j:Q)+1∈zs:=by
    simp;omega
   simp only[this,a1 e]
 .have u:(al T)[j]?=none:=List.getElem?_eq_none (by simp;omega);rw[au,au,u];have e:k≠j:=by omega
  simp[e]
theorem zLm (b:G×Q->d Mem)(h:G)(T:K)(zs:B Q)(s:Q)(v:¬ s<=T):psJ b h T (zs++[s])=psJ b h T zs:=by
 unfold psJ;refine b6 (λk o=>?_);have u:=List.mem_range.1 o;have:((k:Q)+1∈zs++[s])↔(k:Q)+1∈zs:=by simp;omega
 simp only[this]
theorem zLn {b:G×Q->d Mem}(h:IsSlots b o zs)(T:K):psJ b o T zs=(al T).map (pathAt b o):=by
 unfold psJ;refine b6 (λk _=>?_);split
 .rfl
 .rename_i u;rw[h.mem]at u;unfold pathAt;rcases hb:b (o,(k:Q)+1)with _|m
  .rfl
  .rw[hb]at u;simp at u
theorem zKr {b:G×Q->d Mem}(h:IsSlots b o zs)(z:∀ s∈zs,1<=s)(T:K):cntJ T zs=((al T).filter λ(k:K)=>(b (o,(k:Q)+1)).isSome).length:=by
 unfold cntJ;have A:(zs.filter λs=>decide (s<=(T:Q))).Perm (((al T).filter λ(k:K)=>(b (o,(k:Q)+1)).isSome).map λk:K=>(k:Q)+1):=by
  rw[List.perm_ext_iff_of_nodup]
  .intro s;simp only[List.mem_filter,List.mem_map,List.mem_range,decide_eq_true_eq];constructor
   .rintro ⟨u,y⟩;have D:=z s u;refine⟨(s-1).toNat,⟨by omega,?_⟩,by omega⟩;rw[show (((s-1).toNat:K):Q)+1=s by omega];exact(h.mem s).1 u
   .rintro ⟨k,⟨u,y⟩,rfl⟩;exact⟨(h.mem _).2 y,by omega⟩
  .exact h.nodup.sublist b2
  .refine List.pairwise_map.2 ((List.nodup_range.sublist b2).imp (fun {a b} v e=>v (by omega)))
 rw[A.length_eq,av]
theorem zGf (T:Q)(zs:B Q)(s:Q):cntJ T (zs++[s])=cntJ T zs+(if s<=T then 1 else 0):=by
 unfold cntJ;rw[List.filter_append,List.length_append]
 congr 1
 by_cases h:s<=T<;>simp[h]
theorem zOD (T:Q)(zs:B Q):cntJ T zs<=zs.length:=List.length_filter_le _ _
theorem zOa (a:d Addr)(u:K)(l:B Q)(w:ac)(I:Ints w a u l)(J:1<=l.length):
  ak ai 205 #[aj a l.length u] w λe w'=>(∃ m,e=.returned (E C m)/\m∈l/\∀ x∈l,m<=x)/\w=w':=by
 have hn:¬ (l.length:Q)<1:=by omega
 have hm:=I.lenmax;have a2:(0:Q)<l.length:=by omega
 obtain⟨b,a3,X,rfl,z,N⟩:=I.at (k:=0) (by omega);rw[Nat.add_zero]at N;have O:=zh z;clear z
 go_enter Tryz.func205,Tryz.ntmps205
 go_wp2_with fail
 go_loop [3,4] (λv i=>∃ (k:K) (m:Q),1<=k/\k<=l.length/\v=E C m/\i=E C (k:Q)/\ae (m∈l.take k/\∀ x∈l.take k,m<=x)) (λ_ i=>l.length-(intOf i).toNat)
 case atStart=>
  refine⟨1,X,by omega,J,rfl,rfl,?_⟩;unfold ae;have:l.take 1=[X]:=by rw[b8,O.out];rfl
  rw[this];simp
 case round=>
  obtain⟨k,m,a4,hk,rfl,rfl,F⟩:=hrel;by_cases R:k<l.length
  .have Y:(k:Q)<l.length:=by omega
   obtain⟨b',Z,x,e,hx,hc⟩:=I.at R;cases e;have A:ae (l.take (k+1)=l.take k++[x]):=by unfold ae;rw[b8,hx];rfl
   clear hx;by_cases o:m<=x
   .have D:min m x=m:=by omega
    go_wp2_with fail
    go_round
    case rel=>
     refine⟨k+1,m,by omega,by omega,by first|rfl|(rw[ag o]),by go_num,?_⟩;unfold ae;rw[A.out];obtain⟨h1,U⟩:=F.out;refine⟨by simp[h1],λy V=>?_⟩;rcases List.mem_append.1 V with h|h
     .exact U y h
     .obtain rfl:y=x:=by simpa using h
      exact o
    case measure=>simp[intOf];omega
   .have D:min m x=x:=by omega
    go_wp2_with fail
    go_round
    case rel=>
     refine⟨k+1,x,by omega,by omega,by first|rfl|(rw[a1 o]),by go_num,?_⟩;unfold ae;rw[A.out];obtain⟨h1,U⟩:=F.out;refine⟨by simp,λy V=>?_⟩;rcases List.mem_append.1 V with h|h
     .have:=U y h;omega
     .obtain rfl:y=x:=by simpa using h
      omega
    case measure=>simp[intOf];omega
  .obtain rfl:k=l.length:=by omega
   have h:=F.out;rw[List.take_length]at h;have Hr:=zh h;clear h F
   go_wp2_with fail
   go_ret;exact⟨⟨m,rfl,Hr.out.1,Hr.out.2⟩,rfl⟩
theorem zNK (h:d K)(w:ac):ak ai 245 #[.map h] w λe w'=>e=.returned (.func (.func 279) #[] #[aq (q ⟨w,0,a0⟩)])/\w'=w.alloc (a9 #[.map h] 281):=
 (callsIn_wide (n:=5)).1 (AnyZ.keys_in b9 ar 5 trivial rfl h w)
theorem zJc (mb R J:K)(f:B aa->B Q)(N:K)(w:ac)(hs:GMap w J mb f N)(hN:N<=1099511627776)(hB:w.cell? ⟨R,0,a0⟩=q (.map (q mb)))(a3:R<(w:K)):
  ak ai 207 #[.func (.func 279) #[] #[aq (q ⟨R,0,a0⟩)]] w λe w'=>
   (∃ a F u,e=.returned (.slice a u.length F)/\Strs w' a F u/\AscS (u.map kb)/\(∀ x:G,x∈u↔(f (kb x))≠[])/\u.length<=N/\∀ ad,a=q ad->(w:K)<=ad.block)/\Fr No w w':=by
 obtain⟨D,n,hn,hg,_,hf⟩:=hs;obtain⟨es,O,V,Ft,X,hD,_⟩:=hg;have o:w.ownsMap ai 9 (rowElem w J 3 C) mb n D:=⟨es,O,V,Ft,X,hD⟩
 clear V Ft X hD;have a7:=o.size_le;have Y:ax D<=maxLen:=by unfold maxLen;omega
 have I:ax D*16<=140737488355328:=by omega
 have Z:=zDz o ba;have a4:=zCX o lawS ba;have a6:=zDg D;have a2:SeqGives ar 2 ai 279 #[aq (q ⟨R,0,a0⟩)] encStr (λU=>U.Perm (strKeys D)) (ax D) w:=
  AnyZ.keys_gives (ρ:=Tryz.keysT_ren) { b9 with } ar _ trivial rfl (by omega) R mb n D _ a3 hB o
 have cS:=AnyZ.sorted_in Tryz.sortedS ar 5 trivial trivial trivial trivial rfl (by omega) (sortsS _) (enters_of Tryz.func247 (by kernel_rfl) rfl) 279 #[aq (q ⟨R,0,a0⟩)] trivial (enters_of Tryz.func279 (by kernel_rfl) rfl) _ _ Y I _ a2;refine((callsIn_wide (n:=5)).1 cS).mono ?_;rintro e w' ⟨v,U,rfl,z,A,_,hb⟩;have hp:(U.mergeSort (λx y=>decide (x<=y))).Perm (strKeys D):=(List.mergeSort_perm U _).trans z;obtain⟨L,hL⟩:∃ L,L=(U.mergeSort (λx y=>decide (x<=y))):=⟨_,rfl⟩
 have hl:(L.map bk).length=U.length:=by rw[hL];simp
 have e1:L.map encStr=(L.map bk).map Value.string:=by rw[aw];rfl
 rw[<-hL]at hp A;rw[<-hl,e1]at A;obtain⟨a,F,rfl,h1,h2⟩:=Strs.of_own A;have e2:(L.map bk).map kb=L:=by
  rw[aw];have:kb∘bk=id:=by funext x;exact zI6 x
  rw[this,b7]
 refine⟨⟨a,F,L.map bk,rfl,h1,?_,λx=>?_,?_,h2⟩,Fr.of_below_size hb⟩
 .rw[e2,hL];exact zEN (z.nodup_iff.2 a4)
 .have a5:f (kb x)≠[]↔has D (.string (kb x))=true:=by rw[hf];cases f (kb x)<;>simp
  rw[a5,<-Z,<-hp.mem_iff];constructor
  .intro h;obtain⟨y,hy,rfl⟩:=List.mem_map.1 h
   rwa [zI6]
  .intro h;exact List.mem_map.2 ⟨_,h,zFo x⟩
 .rw[av,hp.length_eq];omega
theorem zIn (v u:K)(f:B aa->B Q)(N:K)(w:ac)(R:GMap w u v f N)(Y:N<=1099511627776):
  ak ai 204 #[.map (q v)] w λe w'=>
   (∃ a A h,e=.returned (aj a h.length A)/\Strs w' a A h/\AscS (h.map kb)/\(∀ x:G,x∈h↔(f (kb x))≠[])/\h.length<=N/\∀ I,a=q I->(w:K)<=I.block)/\Fr No w w':=by
 have Z:v<(w:K):=R.lt;have U:Fr No w (w.alloc (a9 #[.map (q v)] 281)):=(ao _ _).alloc _;have D:GMap (w.alloc (a9 #[.map (q v)] 281)) u v f N:=R.grown (World.grownBy_alloc w _ a0) (by simp) (λj hj=>by cases hj);have V:=zF w (a9 #[.map (q v)] 281);have J:(w:K)<(w.alloc (a9 #[.map (q v)] 281)).heap.size:=by simp
 go_enter Tryz.func204,Tryz.ntmps204
 go_wp2_with fail
 refine(zNK _ _).mono ?_;rintro en w1 ⟨rfl,rfl⟩
 go_wp2_with fail
 generalize w.alloc (a9 #[.map (q v)] 281)=W1 at *;refine(zJc v (w:K) u f N W1 D Y (zB V 0) J).mono ?_;rintro en w2 ⟨⟨ia,ic,h,rfl,X,y,z,O,o⟩,F⟩;have H:=zg5 X y z o (U.step F zi);clear X y z o F D V U
 go_wp2_with fail
 go_ret;exact⟨⟨ia,ic,h,rfl,H.out.1,H.out.2.1,H.out.2.2.1,O,λI e=>by have:=H.out.2.2.2.1 I e;omega⟩,H.out.2.2.2.2⟩
theorem zKe (p i:G)(r s t e:Q)(v:ah)(w:ac):
  ak ai 161 #[am #[M p,M i,E C r,E C s,E C t,E C e,v]] w λA w'=>A=.returned (.bool (!p.toList.isEmpty&&(decide (1<=s)&&decide (s<=16))&&(decide (1<=t)&&decide (t<=16))))/\Fr No w w':=by
 have y:Fr No w (w.alloc (a9 #[M p,M i,E C r,E C s,E C t,E C e,v] 232)):=(ao _ _).alloc _;have h:=zh y;clear y;obtain⟨b,u⟩:∃ b,b=(!p.toList.isEmpty&&(decide (1<=s)&&decide (s<=16))&&(decide (1<=t)&&decide (t<=16))):=⟨_,rfl⟩
 rw[<-u];have o:=zh u;clear u
 go_enter Tryz.func161,Tryz.ntmps161
 rcases h1:p.toList.isEmpty with _|_
 .by_cases D:1<=s
  .by_cases F:s<=16
   .by_cases I:1<=t
    .by_cases z:t<=16
     .go_wp2_with fail
      go_ret;exact⟨by rw[o.out,h1];simp[D,F,I,z],h.out⟩
     .go_wp2_with fail
      go_ret;exact⟨by rw[o.out,h1];simp[z],h.out⟩
    .go_wp2_with fail
     go_ret;exact⟨by rw[o.out,h1];simp;omega,h.out⟩
   .go_wp2_with fail
    go_ret;exact⟨by rw[o.out,h1];simp;omega,h.out⟩
  .go_wp2_with fail
   go_ret;exact⟨by rw[o.out,h1];simp;omega,h.out⟩
 .go_wp2_with fail
  go_ret;exact⟨by rw[o.out,h1];simp,h.out⟩
theorem zOU (p i:G)(r s t e:Q)(v:ah)(w:ac):
  ak ai 166 #[am #[M p,M i,E C r,E C s,E C t,E C e,v]] w λu w'=>u=.returned (.bool (!p.toList.isEmpty&&(decide (1<=s)&&decide (s<=16))&&(decide (1<=t)&&decide (t<=16))))/\Fr No w w':=by
 have y:Fr No w (w.alloc (a9 #[M p,M i,E C r,E C s,E C t,E C e,v] 232)):=(ao _ _).alloc _;have z:=zKe p i r s t e v (w.alloc (a9 #[M p,M i,E C r,E C s,E C t,E C e,v] 232));have A:=zh y;clear y
 go_enter Tryz.func166,Tryz.ntmps166
 go_wp2_with fail
 refine z.mono ?_;rintro u F ⟨rfl,h⟩;have H:=zh (A.out.step h zi);clear h z;obtain⟨b,o⟩:∃ b,b=(!p.toList.isEmpty&&(decide (1<=s)&&decide (s<=16))&&(decide (1<=t)&&decide (t<=16))):=⟨_,rfl⟩
 rw[<-o];have D:=zh o;clear o
 go_wp2_with fail
 go_ret;exact⟨by rw[<-D.out];rfl,H.out⟩
structure ArrM extends Arr where
 pa:d Addr
 pc:K
 la:d Addr
 lc:K
def ArrM.vals (m:ArrM):Array ah:=#[M m.i,aj m.pa m.ps.length m.pc,E C m.t,E C m.e,E C m.n,aj m.la m.l.length m.lc]
structure Arrs (w:ac)(a:d Addr)(cap:K)(L:B ArrM):Prop where
 len:L.length<=cap
 max:cap<=maxLen
 isNil:a=a0->L=[]/\cap=0
 ok:∀ m∈L,Strs w m.pa m.pc m.ps/\Strs w m.la m.lc m.l
 cell:∀ ad,a=q ad->L≠[]->ad.spot=a0/\ad.block<(w:K)/\∀ i m,L[i]?=q m->∀ j,j<6->w.cell? ⟨ad.block,ad.off+(i*6+j),a0⟩=m.vals[j]?
structure ArrAt (w:ac)(b o:K)(m:ArrM):Prop where
 c0:w.cell? ⟨b,o,a0⟩=q (M m.i)
 c1:w.cell? ⟨b,o+1,a0⟩=q (aj m.pa m.ps.length m.pc)
 c2:w.cell? ⟨b,o+2,a0⟩=q (E C m.t)
 c3:w.cell? ⟨b,o+3,a0⟩=q (E C m.e)
 c4:w.cell? ⟨b,o+4,a0⟩=q (E C m.n)
 c5:w.cell? ⟨b,o+5,a0⟩=q (aj m.la m.l.length m.lc)
theorem Arrs.elem {y:K}{L:B ArrM}(h:Arrs w a y L){k:K}(v:k<L.length):
  ∃ b o m,a=q ⟨b,o,a0⟩/\L[k]?=q m/\(Strs w m.pa m.pc m.ps/\Strs w m.la m.lc m.l)/\ArrAt w b (o+k*6) m/\b<(w:K):=by
 cases a with
 | none=>obtain⟨rfl,_⟩:=h.isNil rfl;simp at v
 | some A=>
  obtain⟨b,o,I⟩:=A;obtain⟨z,D,F⟩:=h.cell _ rfl (by intro e;subst e;simp at v);simp at z;subst z;have u:=F k _ (b4 v);exact⟨b,o,L[k],rfl,b4 v,h.ok _ (List.getElem_mem v),⟨u 0 (by omega),u 1 (by omega),u 2 (by omega),u 3 (by omega),u 4 (by omega),u 5 (by omega)⟩,D⟩
theorem Arrs.lenmax {o:K}{L:B ArrM}(h:Arrs w a o L):L.length<=9223372036854775807:=by
 have v:=h.len;have u:=h.max;unfold maxLen at u;omega
theorem Arrs.fr {L:B ArrM}(h:Arrs w a u L)(y:Fr S w w')(F:∀ o,a=q o->L≠[]->¬ S o.block)(A:∀ m∈L,(∀ o,m.pa=q o->m.ps≠[]->¬ S o.block)/\∀ o,m.la=q o->m.l≠[]->¬ S o.block):Arrs w' a u L:=
 ⟨h.len,h.max,h.isNil,λm z=>⟨(h.ok m z).1.fr y (A m z).1,(h.ok m z).2.fr y (A m z).2⟩,λo e v=>by
  obtain⟨I,D,J⟩:=h.cell o e v;refine⟨I,Nat.lt_of_lt_of_le D y.size,λi m N j O=>?_⟩;rw[<-J i m N j O];exact World.cell?_of_block (y.block _ D (F o e v))⟩
theorem Arrs.nil (w:ac):Arrs w a0 0 []:=⟨by simp,by simp,λ_=>⟨rfl,rfl⟩,by simp,λ_ e _=>by cases e⟩
theorem infoAr: (Tryz.prog.info? 183).map (λi=>(i.zero,i.size,i.bytes))=q (q (am #[M ByteArray.empty,aj a0 0 0,E C 0,E C 0,E C 0,aj a0 0 0]),6,88):=by kernel_rfl
def arflat (L:B ArrM):B ah:=L.flatMap (λm=>m.vals.toList)
theorem zHW (L:B ArrM)(m:ArrM):arflat (L++[m])=arflat L++m.vals.toList:=by simp[arflat]
theorem zJL (m:ArrM):∀ u∈m.vals.toList,u.oneCell'=true:=by
 intro u h;simp[ArrM.vals]at h;rcases h with rfl|rfl|rfl|rfl|rfl|rfl<;>rfl
theorem zGk : ∀ (L:B ArrM) (i:K) (m:ArrM),L[i]?=q m->∀ j,j<6->(arflat L)[i*6+j]?=m.vals[j]?
 | [],i,m,h,j,o=>by simp at h
 | x::t,0,m,h,j,o=>by
  simp at h;subst h;have:arflat (x::t)=x.vals.toList++arflat t:=by simp[arflat]
  rw[this,List.getElem?_append_left (by simp[ArrM.vals];omega)];simp
 | x::t,i+1,m,h,j,o=>by
  have:arflat (x::t)=x.vals.toList++arflat t:=by simp[arflat]
  rw[this,List.getElem?_append_right (by simp[ArrM.vals];omega),show (i+1)*6+j-x.vals.toList.length=i*6+j from by simp[ArrM.vals];omega];exact zGk t i m (by simpa using h) j o
theorem Arrs.of_own {e:TypeId}{v:ah}{L:B ArrM}(h:w.ownsRow u e 6 v L.length (arflat L))(z:∀ m∈L,Strs w m.pa m.pc m.ps/\Strs w m.la m.lc m.l):
  ∃ a o,v=aj a L.length o/\Arrs w a o L/\∀ y,a=q y->u<=y.block:=by
 obtain⟨_,⟨rfl,A⟩|⟨g,o,D,rfl,N,F,O,A,Y,R⟩⟩:=h
 .have:L=[]:=List.eq_nil_of_length_eq_zero A;subst this;exact⟨a0,0,rfl,Arrs.nil w,λ_ e=>by cases e⟩
 .refine⟨q ⟨g,0,a0⟩,o,rfl,⟨O,A,(λe=>by cases e),z,?_⟩,λy e=>by cases e;exact N⟩;intro y e U;cases e;refine⟨rfl,zC F,λi m I j V=>?_⟩;rw[zB F];simp only[Nat.zero_add];have X:i<L.length:=(List.getElem?_eq_some_iff.1 I).1;have J:(D.toList.take (L.length*6))[i*6+j]?=(arflat L)[i*6+j]?:=by rw[R]
  rw[List.getElem?_take_of_lt (by omega),zGk L i m I j V]at J;rw[<-Array.getElem?_toList,J]
def AFresh (w:ac)(base:K)(L:B ArrM):Prop:=∀ m∈L,(Strs w m.pa m.pc m.ps/\Strs w m.la m.lc m.l)/\(BlkT w m.pa 9/\BlkT w m.la 9)/\(∀ ad,m.pa=q ad->base<=ad.block)/\∀ ad,m.la=q ad->base<=ad.block
theorem AFresh.fr {L:B ArrM}(h:AFresh w u L)(y:Fr S w w')(A:∀ b,u<=b->b<(w:K)->¬ S b):AFresh w' u L:=λm O=>by
 obtain⟨⟨R,U⟩,⟨D,F⟩,I,J⟩:=h m O;have N:∀ o,m.pa=q o->¬ S o.block:=λo e=>by obtain⟨cs,z⟩:=D o e;exact A _ (I o e) (zC z)
 have v:∀ o,m.la=q o->¬ S o.block:=λo e=>by obtain⟨cs,z⟩:=F o e;exact A _ (J o e) (zC z)
 exact⟨⟨R.fr y (λo e _=>N o e),U.fr y (λo e _=>v o e)⟩,⟨D.fr y N,F.fr y v⟩,I,J⟩
theorem AFresh.own {o J:K}{L:B ArrM}{v:ah}{n:K}{N:B ah}(h:AFresh w o L)(A:w.ownsRow J 183 6 v n N)(y:Fr (λb=>v.ownBlock=q b) w w'):AFresh w' o L:=λm O=>by
 obtain⟨⟨R,U⟩,⟨D,F⟩,V,X⟩:=h m O;have I:=BlkT.ne A D (by decide);have u:=BlkT.ne A F (by decide);exact⟨⟨R.fr y (λz e _=>I z e),U.fr y (λz e _=>u z e)⟩,⟨D.fr y I,F.fr y u⟩,V,X⟩
theorem AFresh.snoc {o:K}{L:B ArrM}{m:ArrM}(h:AFresh w o L)(y:Strs w m.pa m.pc m.ps/\Strs w m.la m.lc m.l)(z:BlkT w m.pa 9/\BlkT w m.la 9)(A:(∀ u,m.pa=q u->o<=u.block)/\∀ u,m.la=q u->o<=u.block):AFresh w o (L++[m]):=λx v=>by
 rcases List.mem_append.1 v with v|v
 .exact h x v
 .obtain rfl:x=m:=by simpa using v
  exact⟨y,z,A⟩
end Go.Proofs.YtckkocmhlhefpaaGreatDoor
