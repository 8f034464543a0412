import Derived.Test.YtckkocmhlhefpaaGreatDoorQ35
namespace Go.Proofs.YtckkocmhlhefpaaGreatDoor
open Go.RowKit Go.Maps
set_option linter.unusedVariables false
set_option maxRecDepth 100000
set_option maxHeartbeats 2000000
open Go.Proofs.Tryz renaming prog->ad
open Go.WalkArith renaming wf_i64->aj
open _root_ renaming List->C,ByteArray->E,Int->Q,absurd->B,Nat->T,if_neg->K,if_pos->m,congrArg->s
open _root_.Bool renaming true->G,and_eq_true->a0
open _root_.ByteArray renaming ext->ae
open _root_.List renaming map_append->W,map_take->g,find?_some->ab,mem_of_find?_eq_some->ac,find?_eq_none->af,getElem?_map->ag,map_cons->ah,prefix_append->ai
open _root_.Option renaming some->H
variable{v:Vir}{M:C Vir}{L:C Dev}{ct:Q->E}{b z:Q}{d:Dev}{j:T}
theorem zGM (L:C Dev):0<=maxI L/\(∀ d∈L,d.index<=maxI L)/\∀ b,0<=b->(∀ d∈L,d.index<=b)->maxI L<=b:=by
 refine zG1 (P:=λL=>0<=maxI L/\(∀ d∈L,d.index<=maxI L)/\∀ b,0<=b->(∀ d∈L,d.index<=b)->maxI L<=b) ?_ ?_ L
 .exact⟨Int.le_refl _,by simp,λb h _=>h⟩
 .rintro l x ⟨A,v,y⟩;rw[zGN];refine⟨by omega,λd o=>?_,λb z o=>?_⟩
  .rcases List.mem_append.1 o with o|o
   .have:=v d o;omega
   .simp at o;subst o;omega
  .have:=y b z λd u=>o d (List.mem_append.2 (.inl u))
   have:=o x (by simp);omega
structure VOk (v:Vir):Prop where
 c:InU v.c
 p:(v.q=⟨#[]⟩/\v.o∈rootN)\/∃ n∈rootN,v.q=pathOf [n]/\v.o∈parN n/\NoTab v.c
theorem VOk.path (h:VOk v):v.q++(⟨#[47]⟩:E)++v.o=pathOf (orgOf v.o):=by
 rcases h.p with⟨u,y⟩|⟨n,u,y,z,_⟩
 .unfold orgOf;rw[zCU y,u];rfl
 .unfold orgOf;rw[zBS u z,y];rfl
theorem VOk.all (h:VOk v):v.o∈allN:=by
 rcases h.p with⟨u,y⟩|⟨n,u,y,z,_⟩
 .exact zB2 y
 .exact zKL u z
theorem zHv (n:E):pathOf [n]≠⟨#[]⟩:=λe=>by
 have h:(pathOf [n]).size=0:=by rw[e];rfl
 have o:pathOf [n]=(⟨#[]⟩:E)++⟨#[47]⟩++n:=rfl;rw[o,ByteArray.size_append,ByteArray.size_append]at h;have u:(⟨#[47]⟩:E).size=1:=rfl;omega
theorem zFs (M:C Vir)(p:E×E):(∃ v∈M,(v.q,v.o)=p/\wcF M p=v.c)\/wcF M p=⟨#[]⟩:=by
 unfold wcF;cases h:M.find? (λv=>decide ((v.q,v.o)=p))with
 | none=>exact .inr rfl
 | some v=>exact .inl ⟨v,ac h,by simpa using ab h,rfl⟩
theorem zOS (h:DistP M)(z:v∈M):wcF M (v.q,v.o)=v.c:=by
 have u:=zDa h z;unfold wantG at u;unfold wcF;cases hf:M.find? (λx=>decide ((x.q,x.o)=(v.q,v.o)))with
 | none=>rw[hf]at u;cases u
 | some x=>
  rw[hf]at u;have A:x.vals=v.vals:=by simpa using u
  have y:=s (λa:Array Value=>a[2]?) A;simp[Vir.vals]at y;exact y
theorem zNx (h:v∈M):inW M v.q v.o=true:=List.any_eq_true.2 ⟨v,h,by simp⟩
theorem zM9 (h:∀ v∈M,VOk v)(p:E×E):InU (wcF M p):=by
 rcases zFs M p with⟨v,o,_,e⟩|e
 .rw[e];exact(h v o).c
 .rw[e];exact zBj
theorem zDy: NoTab ⟨#[]⟩:=λc h=>by rw[zDq]at h;cases h;decide
theorem zJQ (h:∀ v∈M,VOk v){n o:E}:NoTab (wcF M (pathOf [n],o)):=by
 rcases zFs M (pathOf [n],o)with⟨v,y,z,e⟩|e
 .rw[e];have A:v.q=pathOf [n]:=s Prod.fst z;rcases(h v y).p with⟨u,_⟩|⟨_,_,_,_,u⟩
  .exact B (A.symm.trans u) (zHv n)
  .exact u
 .rw[e];exact zDy
theorem zCR (h:UOk L ct b)(o:d∈L)(u:d.parent=0):plc L d.index=pathOf [d.orig]:=by
 unfold plc;rw[h.wf.ok.lk o,zBt h.wf.ok d o u];rfl
theorem UOk.ppl (h:UOk L ct b)(v:d∈L)(y:d.parent≠0):∃ n∈rootN,plc L d.parent=pathOf [n]:=by
 rcases h.pl d v with⟨o,_⟩|⟨p,u,o,z,A,_⟩
 .exact B o y
 .exact⟨p.orig,A,by rw[<-o];exact zCR h u z⟩
theorem UOk.wco (h:UOk L ct b)(o:∀ v∈M,VOk v)(u:d∈L):InU (wcF M (plc L d.parent,d.orig))/\(d.parent≠0->NoTab (wcF M (plc L d.parent,d.orig))):=by
 refine⟨zM9 o _,λy=>?_⟩;obtain⟨n,_,e⟩:=h.ppl u y;rw[e];exact zJQ o
theorem UOk.setOk (h:UOk L ct b)(z:b<=1000000)(y:∀ v∈M,VOk v)(u:Q->E):SetOk M L u:=λd o=>
 ⟨(h.dv d o).1.kind,h.cl o,λ_=>⟨h.sound z o (h.wco y o).1,by have:=zDQ (h.wco y o).1;omega⟩⟩
def WantB (M:C Vir)(L:C Dev)(d:Dev):Prop:=virB L d.index=G->inW M (plc L d.parent) d.orig=G
theorem zFH {M:C Vir}{ds:C Dev}{ct:Q->E}{b:Q}(h:UOk (ds.map strip) ct b):∀ (n:T) (pre:C (Q×Dev)),pre.length=n->pre <+: revR ds->∃ F,(remF M ds pre).1=(ds.map strip).take (ds.length-n)++F/\UOk (remF M ds pre).1 ct b/\
  (∀ d∈(remF M ds pre).1,d∈ds.map strip/\plc (remF M ds pre).1 d.parent=plc (ds.map strip) d.parent/\virB (remF M ds pre).1 d.index=virB (ds.map strip) d.index)/\(∀ d∈F,WantB M (ds.map strip) d)/\∀ d∈ds.map strip,d.parent=0->WantB M (ds.map strip) d->d∈(remF M ds pre).1
 | 0,pre,X,_=>by
  obtain rfl:pre=[]:=List.eq_nil_of_length_eq_zero X;refine⟨[],?_,h,λd o=>⟨o,rfl,rfl⟩,by simp,λd o _ _=>o⟩;rw[List.append_nil,Nat.sub_zero,<-List.length_map (f:=strip),List.take_length];rfl
 | n+1,pre,X,hp=>by
  obtain⟨y,x,rfl⟩:∃ y x,pre=y++[x]:=by
   rcases List.eq_nil_or_concat pre with h|⟨y,x,h⟩
   .subst h;simp at X
   .exact⟨y,x,by simpa using h⟩
  have I:y.length=n:=by simpa using X
  obtain⟨F,e,z,Y,hW,hR⟩:=zFH h n y I ((ai y [x]).trans hp);obtain⟨b0,a2⟩:=zHn hp;have J:(ds.map strip).take (ds.length-n)=(ds.map strip).take (ds.length-(n+1))++[strip x.2]:=by
   rw[<-I,<-g,a2,<-g,W];simp
  rw[zDn];obtain⟨S,a3⟩:∃ S,S=remF M ds y:=⟨_,rfl⟩
  rw[<-a3]at e z Y hR ⊢;rw[J,List.append_assoc]at e;have a4:strip x.2∈S.1:=by rw[e];simp
  obtain⟨a5,N,O⟩:=Y _ a4;unfold zAI;by_cases D:(virB S.1 x.2.index&&!inW M (plc S.1 x.2.parent) x.2.orig)=G
  .rw[m D];dsimp only;have hT:TreeOk ((ds.map strip).take (ds.length-(n+1))++([strip x.2]++F)):=by rw[<-e];exact z.wf.ok
   have Z:=z.wf.ok.subF (n:=x.2.index);have a6:UOk (remL x.2.index S.1) ct b:=by rw[zCS];exact z.sub Z
   obtain⟨B',e',a7⟩:=zIu (n:=x.2.index) hT λd o R=>by
    have u:=hT.nd;rw[W,List.nodup_append]at u;exact u.2.2 d.index (List.mem_map_of_mem o) x.2.index (by simp;exact .inl rfl) R
   rw[<-e]at e';refine⟨B',e',a6,λd o=>?_,λd o=>?_,λd o U V=>?_⟩
   .have v:=o;rw[zCS]at v;obtain⟨g1,g2,g3⟩:=Y d (List.mem_filter.1 v).1;rw[zCS];exact⟨g1,by rw[Z.plc (Z.memP v),g2],by rw[Z.vir v,g3]⟩
   .have a8:d∈remL x.2.index S.1:=by rw[e'];simp[o]
    have a9:=zJv z.wf.ok a8;rcases List.mem_append.1 (a7.subset o)with u|u
    .simp at u;subst u;exact B rfl a9
    .exact hW d u
   .refine zJu z.wf.ok (hR d o U V) U λR=>?_
    have A:d=strip x.2:=by
     have u:=h.wf.ok.lk o;have h2:=h.wf.ok.lk a5;have h3:(strip x.2).index=d.index:=R.symm;rw[h3,u]at h2;exact Option.some.inj h2
    rw[a0]at D;have h4:virB (ds.map strip) d.index=true:=by rw[A,<-O];exact D.1
    have h5:=V h4;have h6:plc (ds.map strip) d.parent=plc S.1 x.2.parent:=by rw[A];exact N.symm
    rw[h6,A]at h5;have h7:=D.2;have h8:(strip x.2).orig=x.2.orig:=rfl;rw[h8]at h5;rw[h5]at h7;cases h7
  .rw[K D];refine⟨[strip x.2]++F,e,z,Y,λd o=>?_,hR⟩;rcases List.mem_append.1 o with u|u
   .simp at u;subst u;intro hv;rw[<-O]at hv;rw[<-N];cases R:inW M (plc S.1 (strip x.2).parent) (strip x.2).orig with
    | true=>rfl
    | false=>
     exfalso;apply D;rw[a0];refine⟨hv,?_⟩;have:inW M (plc S.1 x.2.parent) x.2.orig=false:=R;rw[this];rfl
   .exact hW d u
theorem zNa {ds:C Dev}(h:UOk (ds.map strip) ct b):RemOk M ds/\UOk (remF M ds (revR ds)).1 ct b/\(∀ d∈(remF M ds (revR ds)).1,WantB M (remF M ds (revR ds)).1 d)/\∀ d∈ds.map strip,d.parent=0->WantB M (ds.map strip) d->d∈(remF M ds (revR ds)).1:=by
 refine⟨λpre x u=>?_,?_⟩
 .obtain⟨D,e,o,_⟩:=zFH (M:=M) h pre.length pre rfl ((ai pre [x]).trans u);obtain⟨_,_,v,_⟩:=zFH (M:=M) h _ (pre++[x]) rfl u;obtain⟨F,y⟩:=zHn u;have I:strip x.2∈(remF M ds pre).1:=by
   rw[e,<-g,y,W];simp
  exact⟨o.wf,v.wf,strip x.2,o.wf.ok.lk I⟩
 .obtain⟨D,e,o,J,N,hR⟩:=zFH (M:=M) h _ (revR ds) rfl (List.prefix_refl _);rw[zAV,Nat.sub_self,List.take_zero,List.nil_append]at e;refine⟨o,λd z A=>?_,hR⟩;obtain⟨U,O,R⟩:=J d z;rw[O];rw[R]at A;exact N d (by rw[<-e];exact z) A
theorem zJp {M:C Vir}{L:C Dev}{ct:Q->E}(D:TreeOk L)(v:C OpA):∀ k,k<=L.length->∀ j d,L[j]?=H d->(setF M L ct v k).1 d.index=if j<k/\virB L d.index=G then wcF M (plc L d.parent,d.orig)else ct d.index
 | 0,_,j,d,_=>by rw[K (by omega)];rfl
 | k+1,Z,j,d,u=>by
  have F:k<L.length:=by omega
  have J:=zJp (M:=M) (ct:=ct) D v k (by omega) j d u;have o:=List.getElem?_eq_getElem F;rw[zDj o];have y:L[k].index=d.index↔k=j:=by
   constructor
   .intro e;have z:(L.map Dev.index)[k]?=H d.index:=by rw[ag,o];exact s H e
    have V:(L.map Dev.index)[j]?=H d.index:=by rw[ag,u];rfl
    obtain⟨N,O⟩:=List.getElem?_eq_some_iff.1 z;obtain⟨R,U⟩:=List.getElem?_eq_some_iff.1 V;rcases Nat.lt_trichotomy k j with h|h|h
    .exact B (O.trans U.symm) (List.pairwise_iff_getElem.1 D.nd k j N R h)
    .exact h
    .exact B (U.trans O.symm) (List.pairwise_iff_getElem.1 D.nd j k R N h)
   .rintro rfl;rw[o]at u;rw[Option.some.inj u]
  unfold zAR;split
  .rename_i A;dsimp only;unfold updC;by_cases e:d.index=L[k].index
   .obtain rfl:k=j:=y.1 e.symm;rw[o]at u;obtain rfl:=Option.some.inj u;rw[a0]at A;rw[m rfl,m ⟨by omega,A.1⟩]
   .have X:k≠j:=λh=>e (y.2 h).symm
    rw[K e,J];have:(j<k+1/\virB L d.index=G)↔(j<k/\virB L d.index=G):=by constructor<;>rintro ⟨a,b⟩<;>exact⟨by omega,b⟩
    simp only[this]
  .rename_i A;rw[J];by_cases I:k=j
   .subst I;rw[o]at u;obtain rfl:=Option.some.inj u;rw[K (by omega)];split
    .rename_i Y;have z:((ct L[k].index).toList==(wcF M (plc L L[k].parent,L[k].orig)).toList)=true:=by
      cases hq:((ct L[k].index).toList==(wcF M (plc L L[k].parent,L[k].orig)).toList)with
      | true=>rfl
      | false=>exact B (by rw[Y.2,hq];rfl) A
     rw[beq_iff_eq,ByteArray.toList_eq,ByteArray.toList_eq]at z;exact ae (Array.toList_inj.1 z)
    .rfl
   .have:(j<k+1/\virB L d.index=G)↔(j<k/\virB L d.index=G):=by constructor<;>rintro ⟨a,b⟩<;>exact⟨by omega,b⟩
    simp only[this]
def WantC (M:C Vir)(L:C Dev)(ct:Q->E):Prop:=∀ d∈L,virB L d.index=G->inW M (plc L d.parent) d.orig=G/\ct d.index=wcF M (plc L d.parent,d.orig)
def There (L:C Dev)(v:Vir):Prop:=∃ dt,L.find? (atP L (v.q++(⟨#[47]⟩:E)++v.o))=H dt
def Roots (M:C Vir)(L:C Dev):Prop:=∀ v∈M,v.q≠⟨#[]⟩->∃ p∈L,p.parent=0/\v.q=pathOf [p.orig]
structure PlaP (M:C Vir)(ix0:Q)(j:T)(L:C Dev)(ct:Q->E):Prop where
 u:UOk L ct (ix0+j)
 w:WantC M L ct
 t:∀ i v,i<j->M[i]?=H v->There L v
 r:Roots M L
theorem zHR (h:UOk L ct b):L.find? (atP L ⟨#[]⟩)=none:=by
 rw[af];intro d v;unfold atP;rw[h.pth v];intro y;have o:orgOf d.orig≠[]:=λe=>by have:=zCy d.orig;rw[e]at this;cases this
 have z:∀ l:C E,l≠[]->(pathOf l).data.toList≠[]:=λl A e=>by
  rw[zBw]at e;cases l with
  | nil=>exact A rfl
  | cons x t=>rw[ah,zC2]at e;cases e
 have u:(pathOf (orgOf d.orig)).toList=[]:=by simpa using y
 rw[ByteArray.toList_eq]at u;exact z _ o u
theorem zEi (h:UOk L ct b)(z:VOk v):There L v↔∃ e∈L,e.orig=v.o:=by
 unfold There;rw[z.path];constructor
 .rintro ⟨d,A⟩;have u:=ac A;have y:=ab A;unfold atP at y;rw[beq_iff_eq,ByteArray.toList_eq,ByteArray.toList_eq,h.pth u]at y;exact⟨d,u,zCV (h.pl d u).all z.all (ae (Array.toList_inj.1 y))⟩
 .rintro ⟨e,D,F⟩;rw[<-F,<-h.pth D];exact⟨e,zGi h.wf D⟩
theorem UOk.parent (h:UOk L ct b)(U:Roots M L)(V:v∈M)(J:VOk v):∃ p,ParIs L v.q p/\((p=0/\v.q=⟨#[]⟩/\v.o∈rootN)\/∃ r∈L,r.index=p/\r.parent=0/\r.orig∈rootN/\v.o∈parN r.orig/\v.q=pathOf [r.orig]/\NoTab v.c):=by
 rcases J.p with⟨z,A⟩|⟨n,z,A,X,Y⟩
 .refine⟨0,.inl ⟨?_,z,rfl⟩,.inl ⟨rfl,z,A⟩⟩;rw[z];exact zHR h
 .obtain⟨r,u,D,N⟩:=U v V (by rw[A];exact zHv n);have O:r.orig=n:=by
   have Z:pathOf [r.orig]=pathOf [n]:=N.symm.trans A;have F:∀ y∈allN,OkN y:=λy R=>⟨(zAW (zAM R).1).1,(zAM R).2.2.2⟩
   have h6:=zCw (a:=[r.orig]) (b:=[n]) (λx I=>by simp at I;subst I;exact F _ (h.pl r u).all) (λx I=>by simp at I;subst I;exact F _ (zB2 z)) (by rw[Z])
   simpa using h6
  subst O;refine⟨r.index,.inr ⟨r,?_,rfl⟩,.inr ⟨r,u,rfl,D,z,X,A,Y⟩⟩;rw[A,<-zCR h u D];exact zGi h.wf u
theorem zNl (L:C Dev)(p:Q)(h:E)(k:T)(v:k<=44)(o:E)(u:Option Addr):DOk (newG L p h (1048576+(k:Q)) o u):=⟨rfl,rfl,rfl,rfl,rfl,by show 1<=1048576+(k:Q)/\1048576+(k:Q)<=2000000;omega⟩
theorem PlaP.new (h:PlaP M z j L ct)(hx:0<=z/\z+j<=1000000)(hv:v∈M)(N:VOk v){p:Q}(hp:ParIs L v.q p)(U:¬ There L v){k:T}(hk:k<=L.length)(V:usedF L (1048576+(k:Q))=false)(F:Option Addr):
  PlcOk L (newG L p v.o (1048576+(k:Q)) v.c F)/\DOk (newG L p v.o (1048576+(k:Q)) v.c F)/\(1<=maxI L+1/\maxI L<=z+j)/\look L (maxI L+1)=none/\(p≠0->NoTab v.c)/\(sameO L (newG L p v.o (1048576+(k:Q)) v.c F)||L.any (clP (newG L p v.o (1048576+(k:Q)) v.c F)))=false/\plc L p=v.q/\0<=p/\p<=z+j:=by
 obtain⟨a3,hq,y⟩:=h.u.parent h.r hv N;obtain rfl:=zGG hp hq;have a2:=h.u.len;obtain⟨m1,m2,m3⟩:=zGM L;have X:=m3 (z+j) (by omega) λd Y=>(h.u.dv d Y).2
 have hD:=zNl L p v.o k (by omega) v.c F;have hP:PlcOk L (newG L p v.o (1048576+(k:Q)) v.c F):=by
  rcases y with⟨A,D,I⟩|⟨r,J,A,D,I,O,_⟩
  .exact .inl ⟨A,I⟩
  .exact .inr ⟨r,J,A,D,I,O⟩
 refine⟨hP,hD,⟨by omega,X⟩,zo.2 λd Y=>by have:=m2 d Y;omega,λZ=>?_,?_,?_,?_⟩
 .rcases y with⟨A,_⟩|⟨r,_,_,_,_,_,_,O⟩
  .exact B A Z
  .exact O
 .refine h.u.free hD hP (λe R ho=>U ((zEi h.u N).2 ⟨e,R,ho⟩)) λe R hn=>?_
  unfold usedF at V;rw[List.any_eq_false]at V;have:=V e R;rw[(h.u.dv e R).1.kind]at this;have h9:e.num=1048576+(k:Q):=hn;rw[h9]at this;simp at this
 .rcases y with⟨A,D,I⟩|⟨r,J,A,D,I,O,h5,_⟩
  .rw[A,D];exact zHs h.u.wf.ok
  .rw[<-A,h5];exact zCR h.u J D
 .rcases y with⟨A,D,I⟩|⟨r,J,A,_⟩
  .omega
  .have:=(h.u.dv r J).2;have:=(h.u.wf.ok.ix r J).1;omega
theorem PlaP.ok (h:PlaP M z j L ct)(R:0<=z/\z+j<=1000000)(J:v∈M)(y:VOk v):L.length<=44/\∃ p,ParIs L v.q p/\((∃ dt,L.find? (atP L (v.q++(⟨#[47]⟩:E)++v.o))=H dt)\/AddOk L v.q v.o v.c p):=by
 have U:=h.u.len;refine⟨by omega,?_⟩;obtain⟨p,I,D⟩:=h.u.parent h.r J y;refine⟨p,I,?_⟩;by_cases A:There L v
 .exact .inl A
 .right;have h0:=h.new R J y I A (k:=L.length) (Nat.le_refl _);have F:v.q.size<=100000/\v.o.size<=100000:=by
   have V:=(zAW (zAM y.all).1).1;refine⟨?_,by omega⟩;rcases y.p with⟨e,_⟩|⟨n,e1,e2,_⟩
   .rw[e];decide
   .rw[e2];have h2:=(zAW (zAM (zB2 e1)).1).1;have:pathOf [n]=(⟨#[]⟩:E)++⟨#[47]⟩++n:=rfl;rw[this,ByteArray.size_append,ByteArray.size_append];show 0+1+n.size<=_
    omega
  have a4:=zDQ y.c;have N:L.find? (atP L (v.q++(⟨#[47]⟩:E)++v.o))=none:=by
   cases e:L.find? (atP L (v.q++(⟨#[47]⟩:E)++v.o))with
   | none=>rfl
   | some d=>exact B ⟨d,e⟩ A
  obtain⟨m1,m2,m3⟩:=zGM L;have a5:=m3 (z+j) (by omega) λd O=>(h.u.dv d O).2
  have a6:0<=p/\p<=1000000:=by
   rcases D with⟨V,_⟩|⟨r,X,V,_⟩
   .omega
   .have:=(h.u.dv r X).2;have:=(h.u.wf.ok.ix r X).1;omega
  refine⟨I,N,aj (by omega),F.1,F.2,by omega,λd O=>aj (by have:=(h.u.dv d O).1.num;omega),⟨m1,by omega⟩,λk hk hu aa=>?_⟩;obtain⟨Y,Z,g3,g4,g5,g6,g7,_⟩:=h.new R J y I A hk hu aa;obtain⟨a1,a2⟩:=h.u.pre (by omega) Z Y (c:=v.c) (by show 1<=maxI L+1/\maxI L+1<=1000001;omega) g4 y.c;have a3:=(h.u.ins (b':=z+j+1) (by omega) Z Y (c:=v.c) (by show 1<=maxI L+1/\maxI L+1<=z+j+1;omega) g4 y.c g5 g6).1.wf;refine⟨a1,a2,g6,a3.ofStrip ?_⟩;unfold insAt;simp only[W,g,List.map_drop,ah];rfl
theorem PlaP.step {A:Q}(h:PlaP M A j L ct)(hx:0<=A/\A+j<=1000000)(V:DistP M)(X:M[j]?=H v)(I:VOk v){Y:C OpA}{L':C Dev}{J:Q->E}{N:C OpA}(hs:zCK L ct Y v L' J N):PlaP M A (j+1) L' J:=by
 have Z:=List.mem_of_getElem? X;rcases hs with⟨ht,rfl,rfl,rfl⟩|⟨a5,k,aa,p,hk,hu,hp,rfl,rfl,rfl⟩
 .refine⟨h.u.mono (by push_cast;omega),h.w,λi x hi y=>?_,h.r⟩;by_cases e:i<j
  .exact h.t i x e y
  .obtain rfl:i=j:=by omega
   rw[X]at y;cases y;exact ht
 .have a6:¬ There L v:=λ⟨d,z⟩=>by rw[a5]at z;cases z
  obtain⟨g1,g2,g3,g4,g5,g6,g7,_⟩:=h.new hx Z I hp a6 hk.1 hu none;obtain⟨D,U⟩:∃ D,D=newG L p v.o (1048576+(k:Q)) v.c none:=⟨_,rfl⟩
  have di:D.index=maxI L+1:=by rw[U];rfl
  have dp:D.parent=p:=by rw[U];rfl
  have dO:D.orig=v.o:=by rw[U];rfl
  rw[<-U]at g1 g2 g6 ⊢;rw[<-di]at g3 g4 ⊢;obtain⟨a1,a2,a3,a4⟩:=h.u.ins (b':=A+(j+1:T)) (by push_cast;omega) g2 g1 (c:=v.c) (by push_cast;omega) g4 I.c (by rw[dp];exact g5) g6;have hm:∀ {d:Dev},d∈insAt L (insK L D) (strip D)->d=strip D\/d∈L:=λz=>zX.1 z
  refine⟨a1,λd z F=>?_,λi x hi y=>?_,λx a7 hq=>?_⟩
  .rcases hm z with rfl|z
   .have e1:plc (insAt L (insK L D) (strip D)) (strip D).parent=v.q:=by show plc _ D.parent=_;rw[a4,dp,g7]
    have e2:(strip D).orig=v.o:=dO;rw[e1,e2,zOS V Z];refine⟨zNx Z,?_⟩;show updC ct D.index v.c D.index=v.c
    unfold updC;rw[m rfl]
   .obtain⟨b1,b2,b3⟩:=a2 d z;rw[b3]at F;rw[b2];have:=h.w d z F;refine⟨this.1,?_⟩;unfold updC;rw[K (zo.1 g4 d z)];exact this.2
  .have O:There L x->There (insAt L (insK L D) (strip D)) x:=λhy=>by
    obtain⟨e,he,ho⟩:∃ e∈insAt L (insK L D) (strip D),atP (insAt L (insK L D) (strip D)) (x.q++(⟨#[47]⟩:E)++x.o) e=true:=by
     obtain⟨d,z⟩:=hy;have R:=ac z;have h1:=ab z;refine⟨d,zX.2 (.inr R),?_⟩;unfold atP at h1 ⊢;rw[(a2 d R).1];exact h1
    unfold There;cases hf:(insAt L (insK L D) (strip D)).find? (atP (insAt L (insK L D) (strip D)) (x.q++(⟨#[47]⟩:E)++x.o))with
    | none=>rw[af]at hf;exact B ho (hf e he)
    | some d=>exact⟨d,rfl⟩
   by_cases e:i<j
   .exact O (h.t i x e y)
   .obtain rfl:i=j:=by omega
    rw[X]at y;cases y;exact(zEi a1 I).2 ⟨strip D,zX.2 (.inl rfl),dO⟩
  .obtain⟨r,hr,a8,a9⟩:=h.r x a7 hq;exact⟨r,zX.2 (.inr hr),a8,a9⟩
theorem zI5 (w:World):Calls ad 218 #[.int .u64 0] w λe w'=>(∃ k,e=.returned (.int .i64 k))/\w'=w:=by
 go_enter Tryz.func218,Tryz.ntmps218
 go_wp2_with fail
 go_ret;exact⟨⟨_,rfl⟩,rfl⟩
theorem zK5 (w:World):Calls ad 169 #[.int .u64 0] w λe w'=>(∃ k,e=.returned (.int .i64 k))/\w'=w:=by
 have h:=zI5 w
 go_enter Tryz.func169,Tryz.ntmps169
 go_wp2_with fail
 refine h.mono ?_;rintro e w' ⟨⟨k,rfl⟩,rfl⟩
 go_wp2_with fail
 go_ret;exact⟨⟨_,rfl⟩,rfl⟩
theorem zJj (a:Option Addr)(c h:T)(S:C Src)(w:World)(o:w.ownsRow h 134 13 (.slice a S.length c) S.length (sflat S))(z:S.length<=1000):
  Calls ad 119 #[.slice a S.length c,.func (.func 120) #[] #[]] w λe w'=>e=.returned (.tuple #[])/\
   (∃ u:C Src,u.Perm S/\u.Pairwise (λx y=>x.at_<=y.at_)/\w'.ownsRow h 134 13 (.slice a u.length c) u.length (sflat u))/\Fr (λb=>(Value.slice a S.length c).ownBlock=H b) w w':=by
 by_cases v:S=[]
 .subst v;refine(zJl a c _ w (zK5 w)).mono ?_;rintro e w' ⟨rfl,rfl⟩;exact⟨rfl,⟨[],.refl _,.nil,o⟩,Fr.refl _ _⟩
 .exact zLc a c h S w o v z
end Go.Proofs.YtckkocmhlhefpaaGreatDoor
