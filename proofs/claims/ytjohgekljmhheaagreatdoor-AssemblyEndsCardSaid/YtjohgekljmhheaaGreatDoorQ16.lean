import Derived.Test.YtjohgekljmhheaaGreatDoorQ15
import Derived.Lib.SlBytesRow
import Derived.Test.YtjohgekljmhheaaGreatDoorRows
import Derived.Shelf.Vars
import Derived.Stop.LaidErr
import Derived.MakeChecks
import Derived.Lib.LaidTab
import Derived.OpenShut
import Derived.LaidMore
import Derived.Lay
import Derived.HandedShaped
import Derived.Handed
namespace Go.Proofs.YtjohgekljmhheaaGreatDoor
open Go.RowKit Go.Maps Go.ChangeShapes Go.WideShapes Go
set_option linter.unusedVariables false
set_option maxRecDepth 100000
set_option maxHeartbeats 8000000
open Atts renaming nil->cp
open Dev renaming orig->ca,vals->cb
open EvF renaming own->cq,trans->cr
open EvG renaming trans->cu
open Fr renaming refl->ay,size->bv,of_grown->cf,setAt->cw
open Go renaming Addr->ar,World->au,Calls->be,Value->bf,maxLen->bp,TypeId->cc,info_parts->cn,wpList_append_own->co,cell_one_new->dh
open Go.IntKind renaming i64->ak
open Go.Obj renaming cells->am
open Go.OpenSpec renaming ofChange->dc
open Go.Proofs renaming intOf->ax
open Go.Proofs.Tryz renaming prog->az,underlying30->df,underlying9->dg,underlying189->dz,underlying368->eb,underlying370->ed,underlying43->eg
open Go.RowKit renaming Hid->ai
open Go.Value renaming slice->ah,int->aj,string->ap,agg->ba,pointer->bg,slice->br,string->bs
open Go.World renaming ownsRow_nil->cm,var?_cell->eh
open OnlyN renaming mk->db
open Prod renaming snd->cl
open Rec renaming vals->bj,zero->dd
open Strs renaming nil->bq,of_own->de
open _root_ renaming Nat->Q,ByteArray->ab,List->af,Int->ag,Option->aq,congrArg->aw,if_pos->bd,absurd->bn,if_neg->bo,Array->bu,of_decide_eq_true->bz
open _root_.Array renaming toList_append->cd
open _root_.Bool renaming false->al,true->ao
open _root_.ByteArray renaming empty->bc,data_append->ce
open _root_.Int renaming eq_ofNat_of_zero_le->di
open _root_.List renaming length_append->bh,mem_of_getElem?->bi,mem_map_of_mem->bm,length_map->bw,length->cg,map_append->ch,map_cons->ci,filterMap_cons->cx,map_nil->cy,mem_of_find?_eq_some->cz,take_add_one->da,append_nil->dj,eq_nil_of_length_eq_zero->dk,filter_cons_of_neg->dl,find?_cons_of_pos->dm,find?_eq_none->dp,getElem?_eq_getElem->dq,length_nil->dr,range_succ_eq_map->dt,take_length->du
open _root_.Nat renaming le_refl->bx,le_succ->dw,zero_add->dx
open _root_.Option renaming none->B,some->ae,isSome_map->dy
variable{L ds:af Dev}{i p:ab}{ct:ag->ab}{b k rd r:ag}{o:af ab}{W:au}{tx:Dev->ab}{C A:af Src}{R:af Rec}{u d h:Dev}{cs:bu bf}{j:Q}{M:af Vir}{s:Src}
def exD (L:af Dev)(i:ab):Bool:=L.any λd=>eqB d.orig (mdT++i)
theorem zGA:exD L i=ao↔∃ d∈L,d.orig=mdT++i:=by
 unfold exD;rw[List.any_eq_true];exact exists_congr λd=>and_congr Iff.rfl zAP
theorem zEa (h:UOk (ds.map strip) ct b)(o:i=idR\/i=idS):exB ds i=exD (ds.map strip) i:=by
 have u:VOk ⟨(),mdT++i,(),0⟩:=⟨zBs,.inl ⟨rfl,(zDJ o).1⟩,(zDJ o).2⟩
 have v:=(zAu h u).trans zGA.symm;have y:exB ds i=ao↔There (ds.map strip) ⟨(),mdT++i,(),0⟩:=by
  unfold There exB;rw[show ((():ab)++(⟨#[47]⟩:ab)++(mdT++i))=mdP++i by rw[<-ByteArray.append_assoc];rfl];rw[zCX,<-Option.isSome_iff_exists,dy]
 exact Bool.eq_iff_iff.2 (y.trans v)
section
variable {ds ds':af Dev}{tx tx':Dev->ab}{E K:af ab}{r re:ag}{C C' S S':af Src}{M M' Me:af Vir}{G G':af (ab×ab)}{i:ab}
def PA (ds:af Dev)(tx:Dev->ab)(C:af Src)(i:ab):Prop:=(i=idR->RM ds tx C)/\(i=idS->DC ds tx C (sB 2)/\DC ds tx C (sB 3))
theorem DC.same {p:Ct->Bool}(z:SameD ds tx C ds' tx' C')(h:DC ds tx C p):DC ds' tx' C' p:=by
 obtain⟨s,A,y,c,F,I,J⟩:=h;obtain⟨o,u,e⟩:=(z (kx ds tx s) y).1 ⟨s,A,rfl⟩;have N:virB ds' o.d.index=virB ds s.d.index:=aw Kx.v e;have O:tx' o.d=tx s.d:=aw Kx.t e;exact⟨o,u,N.trans y,c,F,O.trans I,J⟩
theorem PA.same (T:TreeC ds tx C)(u:TreeC ds' tx' C')(o:SameD ds tx C ds' tx' C')(h:PA ds tx C i):PA ds' tx' C' i:=
 ⟨λe=>(h.1 e).imp (λh=>h.same o) (λh=>by rw[<-zMQ T u o];exact h),λe=>⟨(h.2 e).1.same o,(h.2 e).2.same o⟩⟩
theorem EndC.next (T:TreeC ds tx C)(o:EndC ds tx E K C re Me)(h:Chain ds tx E K C r S M G):∃ I A J,NextR ds tx E K C r S M G I A J/\∀ v∈A,v∈Me:=by
 have X:=o.max T h;have u:=o;obtain⟨Y,Z,N,O,F,U⟩:=o;by_cases e:r=re
 .subst e;obtain⟨rfl,rfl,rfl⟩:=h.same T F;exact⟨_,_,_,U,λv V=>V⟩
 .obtain⟨S1,M1,G1,y,_,z⟩:=h.grow T F (by omega);exact⟨_,_,_,y,u.sub T z⟩
theorem zHs (h:∀ v∈M,v∈M'){q o:ab}(u:inW M q o=ao):inW M' q o=true:=by
 obtain⟨x,y,e⟩:=List.any_eq_true.1 u;exact List.any_eq_true.2 ⟨x,h x y,e⟩
theorem EndC.pr (T:TreeC ds tx C)(y:EndC ds tx E K C re Me):∀ v∈Me,∃ h u z,Chain ds tx E K C v.r h u z/\inW u v.q v.o=al/\Pr ds tx E h v.r v:=by
 obtain⟨_,_,_,_,A,_⟩:=y;exact λv F=>(A.pr T v F).2.2
theorem zOQ (T:TreeC ds tx C)(F:EndC ds tx E K C re Me)(I:i=idR\/i=idS)(o:∀ s∈C,s.d.orig=mdT++i->exB ds i=ao)(u:exB ds i=al)(y:hasS E i=al)(J:inW Me () (mdT++i)=ao):PA ds tx C i:=by
 obtain⟨v,N,e⟩:=List.any_eq_true.1 J;have e:=bz e;obtain⟨U,V,X,z,_,O⟩:=F.pr T v N;have A:=O.a (aw Prod.fst e) i I (aw cl e);refine⟨λh=>?_,λh=>?_⟩;·subst h;exact A.rr T z o u y
 .subst h;exact A.ss T z u y
theorem zPN {W:af Vir}(T:TreeC ds tx C)(F:Fixed ds tx C W){v:Vir}(N:v∈W)(h:Chain ds tx E K C r S M G)(z:v∈M):∃ s∈S,tx s.d=v.c/\s.o=v.q++⟨#[47]⟩++v.o:=by
 obtain⟨s,O,U,A,I,_,V⟩:=F.w v N;have J:=(h.inv T).1;obtain⟨X,Y⟩:=zCU A;have u:=zIF J.d z;unfold wcF at u;rw[<-X,<-Y]at u;cases hf:M.find? (keyB ds s)with
 | none=>exact bn A (by simpa using List.find?_eq_none.1 hf v z)
 | some x=>
  have y:M.find? (λv=>decide ((v.q,v.o)=(plc ds s.d.parent,s.d.orig)))=ae x:=hf;rw[y]at u;have Z:=(J.m x (cz hf)).2.1;have u:x.c=v.c:=u;rw[(h.inv T).2];refine⟨{ s with r:=x.r },List.mem_filterMap.2 ⟨s,O,?_⟩,I,V⟩;unfold srcE;rw[bd U,hf];unfold srO;dsimp only;rw[bd (by rw[u,I];simp[Z])]
theorem stay (T:TreeC ds tx C)(ho:∀ s∈C,s.o.toList≠[])(he:EndC ds tx E K C re Me)(hi:i=idR\/i=idS)(hP:PA ds tx C i)(hF:i=idR->Fixed ds tx C (W1 ds tx C))(O:exB ds i=ao):inW Me () (mdT++i)=true:=by
 obtain⟨S1,M1,G1,I,z⟩:=he.next T .base;have U:∀ {p:Ct->Bool},DC ds tx C p->∃ s∈C.filter λs=>!virB ds s.d.index,s.o.toList≠[]/\∃ c∈ctsL,tx s.d=c.txt/\p c=true:=λ⟨s,y,J,A⟩=>⟨s,List.mem_filter.2 ⟨y,by simp[J]⟩,ho s y,A⟩
 rcases hi with rfl|rfl
 .rcases hP.1 rfl with h|⟨v,J,c,A,V,X⟩
  .obtain⟨s,y,h1,c,A,V,X⟩:=U h;exact zHs z (zN0 T .base I O y h1 A V X)
  .obtain⟨N,e1,_⟩:=zHz I;have F:v∈M1:=(by rw[e1];exact List.mem_append.2 (.inl J));have u:=Chain.step .base I (by have:=List.length_pos_of_mem F;simpa using this);obtain⟨S2,M2,G2,Y,Z⟩:=he.next T u;obtain⟨s,y,h3,h4⟩:=zPN T (hF rfl) J u F;refine zHs Z (zN0 T u Y O y ?_ A (h3.trans V) X);rw[h4,ByteArray.toList_eq,ce,ce,cd,cd];simp
 .obtain⟨h2,h3⟩:=hP.2 rfl;refine zHs z (zPv T .base I O λk hk=>?_);rcases hk with rfl|rfl
  .exact U h2
  .exact U h3
end
def nF (E:af ab)(L:af Dev):Q:=(if hasS E idR=al/\exD L idR=ao then 1 else 0)+(if hasS E idS=al/\exD L idS=ao then 1 else 0)
def ig0 : ab->Bool:=λ_=>al
structure SetT (E K:af ab)(D:af (ab×ag×ab))(j:Q)(L:af Dev)(ct:ag->ab)(ix:ag):Prop where
 u:UOk L ct ix
 d:DskP D L ct
 x:∀ ds R,ds.map strip=L->CntOk ds R ig0->∀ i,(i=idR\/i=idS)->hasS E i=al->exD L i=ao->PA ds (λd=>ct d.index) (cntL ds R 0 ds) i/\Fixed ds (λd=>ct d.index) (cntL ds R 0 ds) (W1 ds (λd=>ct d.index) (cntL ds R 0 ds))
 t:∃ t:ag,(j:ag)+1<=11*nF E L+t/\(∀ ds R,ds.map strip=L->CntOk ds R ig0->InvC ds (λd=>ct d.index) E K (cntL ds R 0 ds) t)/\(t<=10\/∀ ds R r M,ds.map strip=L->CntOk ds R ig0->EndC ds (λd=>ct d.index) E K (cntL ds R 0 ds) r M->DoneP M L ct ix)
section
variable {E K:af ab}{D:af (ab×ag×ab)}{j:Q}{L L':af Dev}{ct ct':ag->ab}{ix ix' r:ag}{M:af Vir}
theorem EndC.le10 (T:TreeC ds tx C)(h:EndC ds tx E K C r M):r<=10:=by
 obtain⟨S,u,_,_,o,_⟩:=h;exact o.le T
theorem SetT.one (h:UOk L ct ix)(v:DskP D L ct)(y:∀ d∈L,isDk d.orig=ao):SetT E K D 0 L ct ix:=by
 refine⟨h,v,λds R _ _ i z _ A=>?_,1,by omega,λds R F _=>InvC.one (by subst F;exact h.treeC R),.inl (by decide)⟩;obtain⟨d,o,e⟩:=zGA.1 A;have u:=y d o;rw[e,(zDJ z).2]at u;cases u
theorem UOk.so_ne (h:UOk (ds.map strip) ct ix)(R:af Rec):∀ s∈cntL ds R 0 ds,s.o.toList≠[]:=λs y=>by
 obtain⟨z,A,_⟩:=zAm ds R ds 0 s y;have v:plc (ds.map strip) s.d.index=pathOf (orgOf s.d.orig):=h.pth (d:=strip s.d) (bm z);rw[zAH]at v;rw[A,v];unfold orgOf;have u:∀ (p n:ab),(p++(⟨#[47]⟩:ab)++n).toList≠[]:=λp n=>by
  rw[ByteArray.toList_eq,ce,ce,cd,cd];simp
 cases parOf s.d.orig with
 | none=>exact u () _
 | some n=>exact u (pathOf [n]) _
theorem DoneP.ex (F:DoneP M L' ct' ix')(N:∀ v∈M,VOk v)(O:i=idR\/i=idS):exD L' i=ao↔inW M () (mdT++i)=true:=by
 rw[zGA];constructor
 .rintro ⟨d,z,e⟩;have V:=(F.w d z (by rw[F.u.vir z,e,(zDJ O).2];rfl)).1;obtain⟨v,A,J⟩:=List.any_eq_true.1 V;have J:=bz J;have I:v.o=mdT++i:=(aw cl J).trans e;have X:v.q=():=by
   rcases(N v A).p with⟨h,_⟩|⟨n,Y,_,U,_⟩
   .exact h
   .rw[I]at U;have:=zBA (zDJ O).1;rw[zAZ Y U]at this;cases this
  rw[<-X,<-I];exact zHt A
 .intro h;obtain⟨v,A,e⟩:=List.any_eq_true.1 h;have e:=bz e;obtain⟨y,Z,I⟩:=(zAu F.u (N v A)).1 (F.t v A);exact⟨y,Z,I.trans (aw cl e)⟩
theorem SetT.step (h:SetT E K D j L ct ix)(hs:ds.map strip=L)(hR:CntOk ds R ig0)(Z:EndC ds (λd=>ct d.index) E K (cntL ds R 0 ds) r M)(hM:MustOk ds M)(a4:¬ DoneP M L ct ix)(hd:DoneP M L' ct' ix')(hD:DskP D L' ct'):SetT E K D (j+1) L' ct' ix':=by
 subst hs;have T:=h.u.treeC R;have a5:∀ o,isDk o=al->ig0 o=false:=λ_ _=>rfl
 obtain⟨t,a9,a2,hf⟩:=h.t;have ht:t<=10:=hf.resolve_right λhf=>a4 (hf ds R _ _ rfl hR Z)
 have O:∀ i,(i=idR\/i=idS)->hasS E i=al->exD (ds.map strip) i=ao->exD L' i=true:=λi F U V=>by
  obtain⟨h1,h2⟩:=h.x ds R rfl hR i F U V;rw[hd.ex hM.v F];exact stay T (h.u.so_ne R) Z F h1 (λ_=>h2) (by rw[zEa h.u F];exact V)
 have a3:∀ i,(i=idR\/i=idS)->hasS E i=al->exD L' i=ao->PA ds (λd=>ct d.index) (cntL ds R 0 ds) i:=λi F U V=>by
  cases hx0:exD (ds.map strip) i with
  | true=>exact(h.x ds R rfl hR i F U hx0).1
  | false=>
   refine zOQ T Z F (λs hs ho=>?_) (by rw[zEa h.u F];exact hx0) U ((hd.ex hM.v F).1 V);rw[zEa h.u F];exact zGA.2 ⟨strip s.d,bm (zAm ds R ds 0 s hs).1,ho⟩
 have I:∀ y J,y.map strip=L'->CntOk y J ig0->SameD ds (λd=>ct d.index) (cntL ds R 0 ds) y (λd=>ct' d.index) (cntL y J 0 y)/\TreeC y (λd=>ct' d.index) (cntL y J 0 y)/\Fixed y (λd=>ct' d.index) (cntL y J 0 y) M:=λy J z A=>by
  subst z;exact⟨sameD h.u hd.u h.d hD hR A (λ_ _=>Iff.rfl),hd.u.treeC J,hd.fixed hM.v hM.d A a5⟩
 refine⟨hd.u,hD,λy J z A i F U V=>?_,?_⟩
 .obtain⟨k1,k2,k3⟩:=I y J z A;refine⟨(a3 i F U V).same T k2 k1,k3.mono λv hv=>?_⟩;rw[<-zMQ T k2 k1]at hv;obtain⟨S1,M1,G1,hn,a6⟩:=Z.next T .base;obtain⟨N,e1,_⟩:=zHz hn;exact a6 v (by rw[e1];exact List.mem_append.2 (.inl hv))
 .by_cases Y:∀ i,(i=idR\/i=idS)->hasS E i=al->exD (ds.map strip) i=exD L' i
  .have V:∀ y,y.map strip=L'->∀ s∈cntL ds R 0 ds,∀ r m,ofK 2 mk2 s.o r (ct s.d.index)=ae m->hasS E m.i=ao\/exB ds m.i=exB y m.i:=λy z s hs r m X=>by
    have F:m.i=idR\/m.i=idS:=by
     unfold ofK at X;cases hc:parseC (ct s.d.index)with
     | none=>rw[hc]at X;cases X
     | some c=>
      rw[hc]at X;dsimp only at X;split at X
      .rename_i hk;injection X with X
       subst X;exact zQS ((h.u.known s.d (zAm ds R ds 0 s hs).1).1.parse hc (by omega)).1 hk
      .cases X
    cases U:hasS E m.i with
    | true=>exact .inl rfl
    | false=>
     right;rw[zEa h.u F,Y _ F U,<-z,zEa (by rw[z];exact hd.u) F]
   refine⟨t+1,?_,λy J z A=>?_,?_⟩
   .have:nF E (ds.map strip)=nF E L':=by
     have h1:=Y idR (.inl rfl);have h2:=Y idS (.inr rfl);unfold nF;revert h1 h2;cases hasS E idR<;>cases hasS E idS<;>cases exD (ds.map strip) idR<;>cases exD (ds.map strip) idS<;>cases exD L' idR<;>cases exD L' idS<;>decide
    rw[<-this];omega
   .obtain⟨k1,k2,k3⟩:=I y J z A;exact(InvC.step T k1 (V y z) (a2 ds R rfl hR) Z k3).2
   .by_cases a7:t+1<=10;·exact .inl a7
    .refine .inr λy J r' M' z A a8=>?_
     obtain⟨k1,k2,k3⟩:=I y J z A;have hr:=Z.le10 T;rw[<-EndC.eq T k2 k1 (V y z) (InvC.step T k1 (V y z) (a2 ds R rfl hR) Z k3).1 Z a8 (by omega)];exact hd
  .refine⟨1,?_,λy J z A=>InvC.one (I y J z A).2.1,.inl (by decide)⟩;have b0:nF E (ds.map strip)+1<=nF E L':=by
    have h1:=O idR (.inl rfl);have h2:=O idS (.inr rfl);have h3:¬ ((hasS E idR=al->exD (ds.map strip) idR=exD L' idR)/\(hasS E idS=al->exD (ds.map strip) idS=exD L' idS)):=λh=>Y λi F U=>by
     rcases F with rfl|rfl
     .exact h.1 U
     .exact h.2 U
    unfold nF;revert h1 h2 h3;cases hasS E idR<;>cases hasS E idS<;>cases exD (ds.map strip) idR<;>cases exD (ds.map strip) idS<;>cases exD L' idR<;>cases exD L' idS<;>decide
   push_cast
   omega
theorem SetT.le (h:SetT E K D j L ct ix)(y:ds.map strip=L)(hR:CntOk ds R ig0)(z:EndC ds (λd=>ct d.index) E K (cntL ds R 0 ds) r M)(o:¬ DoneP M L ct ix):j<=31:=by
 obtain⟨t,A,v,u⟩:=h.t;have F:t<=10:=u.resolve_right λu=>o (u ds R _ _ y hR z)
 have:nF E L<=2:=by
  unfold nF;split<;>split<;>omega
 omega
end
theorem infoR: (Tryz.prog.info? 76).map (λi=>(i.zero,i.size,i.bytes))=ae (ae (ba #[bc,aj ak 0,ah B 0 0,ah B 0 0,ah B 0 0,ah B 0 0,ah B 0 0,bc,aj ak 0,bc,bc,aj ak 0]),12,208):=by kernel_rfl
def rflat (l:af Rec):af bf:=l.flatMap (λr=>r.vals.toList)
theorem zJh (l:af Rec)(r:Rec):rflat (l++[r])=rflat l++r.vals.toList:=by simp[rflat]
theorem zMl (r:Rec)(j:Q)(h:j<12):r.vals.toList[j]?=ae (r.cell j):=by
 unfold bj
 match j,h with
 | 0,_=>rfl
 | 1,_=>rfl
 | 2,_=>rfl
 | 3,_=>rfl
 | 4,_=>rfl
 | 5,_=>rfl
 | 6,_=>rfl
 | 7,_=>rfl
 | 8,_=>rfl
 | 9,_=>rfl
 | 10,_=>rfl
 | 11,_=>rfl
theorem zIW : ∀ (l:af Rec) (i:Q) (r:Rec),l[i]?=ae r->∀ j,j<12->(rflat l)[i*12+j]?=ae (r.cell j)
 | [],i,d,h,j,o=>by simp at h
 | x::t,0,d,h,j,o=>by
  simp at h;subst h;have:rflat (x::t)=x.vals.toList++rflat t:=by simp[rflat]
  rw[this,List.getElem?_append_left (by simp[bj];omega)]
  simpa using zMl x j o
 | x::t,i+1,d,h,j,o=>by
  have:rflat (x::t)=x.vals.toList++rflat t:=by simp[rflat]
  rw[this,List.getElem?_append_right (by simp[bj];omega)];have u:=zIW t i d (by simpa using h) j o;rw[show (i+1)*12+j-x.vals.toList.length=i*12+j from by simp[bj];omega];exact u
theorem zGi (r:Rec):∀ u∈r.vals.toList,u.oneCell'=true:=by
 intro u h;simp[bj]at h;rcases h with rfl|rfl|rfl|rfl|rfl|rfl|rfl|rfl|rfl|rfl|rfl|rfl<;>rfl
theorem Recs.of_own {w:au}{u:Q}{e:cc}{v:bf}{l:af Rec}(h:w.ownsRow u e 12 v (l:Q) (rflat l))(z:∀ r∈l,RecOk w r):
  ∃ a o,v=ah a l o/\Recs w a o l/\∀ y,a=ae y->u<=y.block:=by
 obtain⟨_,⟨rfl,A⟩|⟨g,o,F,rfl,O,I,U,A,h3,V⟩⟩:=h
 .have:l=[]:=dk A;subst this;exact⟨B,0,rfl,Recs.nil w,λ_ e=>by cases e⟩
 .refine⟨ae ⟨g,0,B⟩,o,rfl,⟨U,A,(λe=>by cases e),z,?_⟩,λy e=>by cases e;exact O⟩;intro y e X;cases e;refine⟨rfl,zC I,λi d J j Y=>?_⟩;rw[zB I];simp only[dx];have Z:i<(l:Q):=(List.getElem?_eq_some_iff.1 J).1;have N:(F.toList.take ((l:Q)*12))[i*12+j]?=(rflat l)[i*12+j]?:=by rw[V]
  rw[List.getElem?_take_of_lt (by omega),zIW l i d J j Y]at N;rw[<-Array.getElem?_toList,N]


def recA (p:ab)(i:ag)(pa:aq ar)(ps:af (ab×ab)):Rec:=⟨p,i,ps,[],pa,(ps:Q),B,0,B,0,0,B,0,0,B,0,0,(),0,(),(),0⟩
def recL (ds l:af Dev):af Rec:=l.map λd=>recA (pathOf (origin ds d.index)) d.index B []
theorem zOu (w:au)(ds l:af Dev):∀ r∈recL ds l,RecOk w r:=λr h=>by
 obtain⟨d,_,rfl⟩:=List.mem_map.1 h;exact⟨cp w,bq w⟩
theorem zFG (tv:bf)(a:aq ar)(o:Q)(ds:af Dev)(w:au)(hl:Devs w a o ds)(hT:TreeOk ds)(hn:(ds:Q)<=1000):
  be az 10 #[tv,ba #[ah a ds o],.bool ao] w λe w'=>(∃ ra rc,e=.returned (ah ra (recL ds ds).length rc)/\Recs w' ra rc (recL ds ds)/\(∀ ad,ra=ae ad->(w:Q)<=ad.block)/\BlkT w' ra 76)/\Fr No w w':=by
 obtain⟨i0,d4,d5,d6,d7⟩:=cn infoR;have hm:=hl.lenmax;have h0:Fr No w (w.alloc (am #[ah a ds o] 39)):=(ay _ _).alloc _;have q3:=zF w (am #[ah a ds o] 39);have e9:(w.alloc (am #[ah a ds o] 39)).heap.size=(w:Q)+1:=by simp
 have a9:=hl.no h0 (λ_=>id);have d8:=zh h0;go_enter Tryz.func10,Tryz.ntmps10;go_wp2_with fail;generalize w.alloc (am #[ah a ds o] 39)=w1 at *;clear hl h0;go_loopw [7,8] (λv i wr=>∃ (k:Q) (R:af Rec) (av:aq ar) (cv:Q),k<=(ds:Q)/\v=ah av R cv/\i=aj ak (k:ag)/\ai (R=recL ds (ds.take k))/\(R:Q)<=k/\wr.ownsRow (w1:Q) 76 12 (ah av R cv) (R:Q) (rflat R)/\Fr (From (w1:Q)) w1 wr) (λ_ i _=>(ds:Q)-(ax i).toNat);case atStart=>exact⟨0,[],B,0,by omega,rfl,rfl,by unfold ai recL;simp,by simp,cm _ _ _ _,ay _ _⟩
 case round=>
  obtain⟨k,R,av,cv,g1,rfl,rfl,HR,g2,u,z⟩:=hrel;obtain⟨Y,rfl⟩:=ε wr
  have b0:∀ b,b<(w1:Q)->¬ From (w1:Q) b:=λb h1 h3=>by omega
  have O:=z.heap q3 (b0 _ (by omega));have c4:Y ⟨w,0,B⟩=ae (ah a ds o):=zB O 0;have g4:=z.size;by_cases a4:k<(ds:Q)
  .have e8:(k:ag)<(ds:Q):=by omega
   have A:Devs Y a o ds:=a9.fr z (λad e d9=>b0 _ (a9.cell ad e d9).2.1);obtain⟨bb,b1,x,V,a5,y0,_,_,_,_,_,_,_,_,_⟩:=A.dev a4;have e0:=(A.cell _ V (by intro e;rw[e]at a4;simp at a4)).2.1;have a3:=A;rw[V]at A;have g5:=hT.ix x (bi a5);have e1:ai (recL ds (ds.take (k+1))=recL ds (ds.take k)++[recA (pathOf (origin ds x.index)) x.index B []]):=by
    unfold ai recL;rw[da,a5,ch];rfl
   have g6:=zh V;have e2:=zh z;rw[V]at c4 O;clear a5 z V;simp only at e0;go_upto_region 5 with(fail)
   go_cut [9] (λv wc=>∃ b7,v=bg (ae ⟨b7,0,B⟩)/\wc.heap[b7]?=ae (am (recA (pathOf (origin ds x.index)) x.index B []).vals 76)/\(Y:Q)<=b7/\Fr No Y wc);case first=>
    refine zZ (From (Y:Q)) (.q 0 (.q 1 (.q 2 (.q 3 (.q 4 (.q 5 (.q 6 (.q 8 (.q 9 (.q 10 (.q 11 (.q 12 (.q 13 (.m2 7 (.q 14 (.m1 15 (.m1 16 .fin))) 15 (.m1 7 (.q 14 (.m1 16 .fin))))))))))))))))) _ (λw0 U=>?_) zj;have g7:=U.size;have g8:=zC O;have g3:∀ g:Gr (From (Y:Q)) w0,g.W ⟨w,0,B⟩=ae (ah (ae ⟨bb,b1,B⟩) ds o):=λg=>g.fr.cell (zB (U.heap O id) 0) (by unfold From;simp only;omega)
    have g0:∀ g:Gr (From (Y:Q)) w0,g.W ⟨bb,b1+k*10,B⟩=ae (aj ak x.index):=λg=>g.fr.cell (U.cell y0 id) (by unfold From;simp only;omega)
    have b2:=A.no U (λ_=>id);have b3:=zh U;obtain⟨rx,b4⟩:=ε (recA (pathOf (origin ds x.index)) x.index B [])
    have g9:=zh b4;clear y0 O A a3 u U b4 c4;(repeat apply zL rfl rfl rfl;intro K hK;go_big_quiet_op;go_big_quiet_on);clear g3 g0;refine zAB rfl rfl ?_ ?_
    .go_wp2_with fail;apply (zEC _ o ds x.index _ b2 hT (by omega)).mono;rintro e w5 ⟨rfl,y⟩;generalize e3:pathOf (origin ds x.index)=pp at *;go_wp2_with fail;apply zm y;(repeat apply zL rfl rfl rfl;intro K hK;go_big_quiet_op;go_big_quiet_on);apply zH rfl;go_wp2_with fail;apply zp;apply zH rfl;go_wp2_with fail;refine db ⟨Fr.swap _ _ _ (by have:=y.size;omega),?_⟩;apply zW;go_wp2;go_meet;exact⟨(w5:Q),rfl,zF _ _,by have:=y.size;omega,(b3.step y zi).alloc _⟩
    .go_wp2_with fail;apply zp;generalize hX:w0.alloc (am #[(),aj ak 0,ah B 0 0,ah B 0 0,ah B 0 0,ah B 0 0,ah B 0 0,(),aj ak 0,(),(),aj ak 0] 76)=X;have e4:X.heap[(w0:Q)]?=ae (am #[(),aj ak 0,ah B 0 0,ah B 0 0,ah B 0 0,ah B 0 0,ah B 0 0,(),aj ak 0,(),(),aj ak 0] 76):=(by rw[<-hX];exact zF _ _);have b5:Fr No w0 X:=(by rw[<-hX];exact(ay _ _).alloc _);clear hX;apply zH rfl;go_wp2_with fail;apply (zEC _ o ds x.index _ (b2.no b5 (λ_=>id)) hT (by omega)).mono;rintro e w5 ⟨rfl,y⟩;generalize e3:pathOf (origin ds x.index)=pp at *;go_wp2_with fail;apply zm y;(repeat apply zL rfl rfl rfl;intro K hK;go_big_quiet_op;go_big_quiet_on);apply zH rfl;have a6:=y.heap e4 id;obtain⟨z0,z1,z2,z3,z4,z5,z6,z7,z8,z9,b6,b8⟩:=cl12 a6;obtain⟨y0,y1,y2,y3,y4,y5,y6,y7,y8,y9,h2,h4⟩:=fl12 a6;go_wp2_with fail;have Z:=zOp a6 rfl (recA pp x.index B []);unfold recA at Z;refine db ⟨Z.2.mono (λ_ _ h=>by omega),?_⟩;apply zW;go_wp2;go_meet;exact⟨(w0:Q),rfl,Z.1,by omega,((b3.step b5 zi).step y zi).step Z.2 (λb hb e=>by omega)⟩
   case rest=>
    obtain⟨b7,rfl,q7,h5,a2⟩:=hcut;obtain⟨W5,rfl⟩:=ε wc
    have F:=zAc u a2 (λ_ _=>id);have e5:=zh (e2.step a2 zn);have h6:=a2.size;generalize pathOf (origin ds x.index)=pp at *;unfold bj recA at q7;simp only[dr]at q7;obtain⟨z0,z1,z2,z3,z4,z5,z6,z7,z8,z9,b6,b8⟩:=cl12 q7;clear y0 O A a3 u c4 q7 a2;go_wp2_with (at_builtin;refine co _ rfl _ _ 43 rfl (w1:Q) 76 i0 (ba #[bc,aj ak 0,ah B 0 0,ah B 0 0,ah B 0 0,ah B 0 0,ah B 0 0,bc,aj ak 0,bc,bc,aj ak 0]) 12 208 eg d4 d5 d6 d7 rfl (by decide) _ _ _ rfl (F.alloc _) ⟨W5,0,B⟩ 1 1 [ap pp,aj ak x.index,ah B 0 0,ah B 0 0,ah B 0 0,ah B 0 0,ah B 0 0,ap (),aj ak 0,ap (),ap (),aj ak 0] rfl rfl (zl _ _ _ rfl) (zGi (recA pp x.index B [])) (by unfold bp;omega) (by omega) (by first|omega|(simp;omega)) ?_;intro v' w7 I J _;obtain⟨b9,d0,rfl⟩:=zI I)
    have d1:Fr (From (w1:Q)) W5 w7:=zCG F J;have e6:=zh (e5.step d1 (λb hb h=>h));have a7:ai (w7.ownsRow (w1:Q) 76 12 (ah b9 (R++[recA pp x.index B []]).length d0) (R++[recA pp x.index B []]).length (rflat (R++[recA pp x.index B []]))):=by
     unfold ai;rw[zJh,bh];exact I
    have d2:(R:Q)+1=(R++[recA pp x.index B []]).length:=(by simp);clear d1 I J F z0 z1 z2 z3 z4 z5 z6 z7 z8 z9 b6 b8;go_roundw;case rel=>exact⟨k+1,R++[recA pp x.index B []],b9,d0,by omega,by rw[<-d2],by go_num,by unfold ai;rw[e1,HR],by rw[<-d2];omega,a7,e6⟩
    case measure=>simp[ax];omega
  .obtain rfl:k=(ds:Q):=by omega
   have hR:=HR.out;rw[du]at hR;obtain⟨a',c',e7,a8,N⟩:=Recs.of_own u (λr hr=>zOu _ ds ds r (hR▸hr));cases e7;rw[hR]at a8 ⊢;have d3:=zAI u;have H:=zg3 (And.intro a8 d3) N ((d8.step z (λb hb h=>by omega)));clear u z a8 N hR HR d3;go_wp2;go_ret;exact⟨⟨_,_,rfl,H.1.1,λad e=>by have:=H.2.1 ad e;omega,H.1.2⟩,H.2.2⟩
structure StK (W:au)(tb sb:Q)(ka ea:aq ar)(kc ec:Q)(K E:af ab):Prop where
 box:W.heap[sb]?=ae (am #[ah ka K kc,aj ak 0] 33)
 ks:Strs W ka kc K
 es:Strs W ea ec E
 kt:BlkT W ka 9
 et:BlkT W ea 9
 kf:∀ ad,ka=ae ad->tb<ad.block
 ef:∀ ad,ea=ae ad->tb<ad.block
 sf:tb<sb
section
variable {W W':au}{tb sb:Q}{ka ea:aq ar}{kc ec:Q}{K E:af ab}
theorem StK.fr {S:Q->Prop}(h:StK W tb sb ka ea kc ec K E)(u:Fr S W W')(z:¬ S sb)(v:∀ o,ka=ae o->¬ S o.block)(y:∀ o,ea=ae o->¬ S o.block):StK W' tb sb ka ea kc ec K E:=
 ⟨u.heap h.box z,h.ks.fr u (λo e _=>v o e),h.es.fr u (λo e _=>y o e),h.kt.fr u v,h.et.fr u y,h.kf,h.ef,h.sf⟩
theorem StK.no (h:StK W tb sb ka ea kc ec K E)(o:Fr No W W'):StK W' tb sb ka ea kc ec K E:=h.fr o id (λ_ _=>id) (λ_ _=>id)
theorem StK.ev {y o:Q}(h:StK W tb sb ka ea kc ec K E)(u:EvF y o W W')(v:W.heap[y]?=ae (am cs 59)):StK W' tb sb ka ea kc ec K E:=by
 refine h.fr u (λz=>?_) (u.bt h.kt v (by decide) (by decide)) (u.bt h.et v (by decide) (by decide));exact u.bt (a:=ae ⟨sb,0,B⟩) (T:=33) (λA e=>by cases e;exact⟨_,h.box⟩) v (by decide) (by decide) _ rfl z
end
theorem KA.v {u o n:Q}{y:ag}(h:KA W u o L ct y n):∃ v,W ⟨u,3,B⟩=ae v:=by
 obtain⟨a,z,ds,F,I,J,A,_⟩:=h;exact⟨_,zB A.blk 3⟩
theorem zJD (o:TreeOk ds)(u:∀ d∈ds,d.kind=2):CntOk ds (recL ds ds) (λ_=>al):=λd h=>by
 unfold cntB;rw[o.lk h];dsimp only;cases hf:(recL ds ds).find? (Rec.is d.index (pathOf (origin ds d.index)))with
 | none=>
  rw[dp]at hf;refine bn ?_ (hf _ (bm h));unfold Rec.is recA;simp
 | some r=>
  obtain⟨x,_,rfl⟩:=List.mem_map.1 (cz hf);dsimp only;rw[u d h];show ((2:ag)==2&&!((():ab).toList==[49]))=_
  rw[ByteArray.toList_eq];rfl
theorem zOw (s:ab)(w:au):be az 22 #[ah B 0 0,s] w λe w'=>e=.returned (.bool al)/\w'=w:=by
 go_enter Tryz.func22,Tryz.ntmps22;go_wp2_with fail;go_loopw [5] (λv wr=>v=aj ak 0/\wr=w) (λ_ _=>0);case atStart=>exact⟨rfl,rfl⟩
 case round=>
  obtain⟨rfl,rfl⟩:=hrel;go_wp2;go_ret;exact⟨rfl,rfl⟩
theorem u_plan2 (u:Q)(a:aq ar)(y:Q)(ds:af Dev)(ct:ag->ab)(M:af Vir)(O:aq ar)(U:Q)(h:ag)(w:au)(Z:Tr w u a y ds)(hU:UOk (ds.map strip) ct h)(V:MustOk ds M)(hx:0<=h/\h<=900000)(hE:Env w)(F:TrT w a ds)(hC:CtO w ds ct)(hV:Virs w O U M)(I:u<=(w:Q)):
  be az 23 #[ba #[ah a ds y],ah O M U] w λe w'=>(∃ (o:af OpA) (z:aq ar) (A:Q),e=.returned (ah z o A)/\(o=[]/\DoneP M (ds.map strip) ct h\/¬ DoneP M (ds.map strip) ct h/\∃ (K:af Dev) (J:ag->ab) (N:ag),KRun 44 (ds.map strip) ct h o K J N/\DoneP M K J N/\(∀ D,DskP D (ds.map strip) ct->DskP D K J)/\N<=h+44/\(o:Q)<=132/\w'.ownsRow (w:Q) 72 14 (ah z o A) (o:Q) (opF o)/\OpsOk w' (w:Q) o))/\Fr No w w':=by
 by_cases X:DoneP M (ds.map strip) ct h
 .apply (zNu u a y ds ct M O U h w Z X V.v V.d (by omega) hE F hC hV I).mono;rintro e w' ⟨⟨z,A,rfl⟩,Y⟩;exact⟨⟨[],z,A,rfl,.inl ⟨rfl,X⟩⟩,Y⟩
 .apply (zKO u a y ds ct M O U h w Z hU V hx hE F hC hV I (λ_ _ _=>True) trivial (λ_ _ _ _ _ _ _ _ _ _ _=>trivial)).mono;rintro e w' ⟨⟨o,z,A,K,J,N,h1,h2,h3,h4,h5,_,rfl,h6,h7⟩,Y⟩;exact⟨⟨o,z,A,rfl,.inr ⟨X,K,J,N,h1,h2,h3,h4,h5,h6,h7⟩⟩,Y⟩
theorem zLS (tb sb F y n:Q)(L:af Dev)(ct:ag->ab)(ix:ag)(D:af (ab×ag×ab))(ka ea:aq ar)(kc xc:Q)(E K:af ab)(w:au)(hK:KA w F y L ct ix n)(hU:UOk L ct ix)(hD:DskP D L ct)(h8:8<F)(a3:F<=y)(hb:y<=(w:Q))(hn:n<=40000000)(j0:0<=ix/\ix<=800000)
  (hE:Env w) (hS:StK w tb sb ka ea kc xc K E) (j1:(K:Q)<=1000000) (j2:∀ x∈K,x.size<=bp) (Y:∀ d∈L,isDk d.orig=ao):
  be az 7 #[bg (ae ⟨F,0,B⟩),ba #[ah ka K kc,aj ak 0],ah ea E xc,ah B 0 0] w λe w'=>e=.returned (.bool ao)/\(∃ L' e8 z n',KA w' F y L' e8 z n'/\SetE E K (λ_=>al) D L' e8 z/\0<=z/\z<=ix+1500/\n'<=n+200000)/\EvF F y w w'/\EvG F w w':=by
 obtain⟨W0,e9,x0,b0⟩:=zy w (am #[ah ka K kc,aj ak 0] 33);have g0:ai (KA W0 F y L ct ix n):=hK.no a3 x0;have j3:tb<(w:Q):=by have:=hS.sf;have:=zC hS.box;omega
 have U:=hS.no x0;have g1:ai (StK W0 tb (w:Q) ka ea kc xc K E):=⟨b0,U.ks,U.es,U.kt,U.et,U.kf,U.ef,j3⟩
 have g2:ai (SetT E K D 0 L ct ix):=SetT.one hU hD Y;have HE:=zh hE;have X0:=zh x0;have m0:=x0.size;clear hK hU hD hE hS U x0 b0 Y;go_enter Tryz.func7,Tryz.ntmps7;go_upto_region 1 with(fail)
 rw[<-e9];clear e9;go_wp2_with fail;go_loopw [9] (λx wr=>∃ (r nn:Q) (L:af Dev) (ct:ag->ab) (z:ag),r<=32/\x=aj ak (r:ag)/\nn<=n+5940*r/\0<=z/\z<=ix+44*r/\ai (SetT E K D r L ct z)/\ai (KA wr F y L ct z nn)/\ai (StK wr tb (w:Q) ka ea kc xc K E)/\ai (EvF F y w wr)/\ai (EvG F w wr)) (λx _=>40-(ax x).toNat);case atStart=>exact⟨0,n,L,ct,ix,by omega,rfl,by omega,j0.1,by omega,g2,g0,g1,EvF.no X0,EvG.no X0⟩
 case round=>
  clear g2 g0 g1;obtain⟨r,nn,L,ct,z,l6,rfl,m1,g3,m2,HI,HK,HS,d6,HG⟩:=hrel;obtain⟨wA,rfl⟩:=ε wr
  have l7:(r:ag)<40:=by omega
  have m3:=HI.u.len;have m4:=bv d6;have a4:=zEQ F y nn L ct z wA HK (by omega);go_wp2_with fail;apply a4.mono;rintro e w1 ⟨⟨ta,tc,ds,rfl,a5,g4,g5,b6⟩,d7⟩;have m5:(ds:Q)<=44:=by have h:=aw cg b6;rw[bw]at h;omega
  obtain⟨W2,g6,f2,b2⟩:=zy w1 (am #[ah ta ds tc] 39);have t2:W2 ⟨w1,0,B⟩=ae (ah ta ds tc):=zB b2 0;obtain⟨R,hR⟩:=ε (recL ds ds)
  have d8:ai (UOk (ds.map strip) ct z):=by rw[b6];exact HI.u
  have d9:ai (CntOk ds R (λ_=>al)):=by
   rw[hR];exact zJD a5.wf.ok λd hd=>(d8.dv (strip d) (bm hd)).1.kind
  have a6:=zFG (bg B) ta tc ds W2 (a5.no f2).dv a5.wf.ok (by omega);rw[<-hR]at a6;have s1:=d7.size;have b7:=zg4 (a5.no f2) (g4.fr f2 (λ_ _=>id)) (AttOf.no g5 f2) b2;have Z:=zh b6;have j4:=zh (d7.step f2 zi);have l2:=zC b2;clear a5 g4 g5 f2 b2 b6 d7 a4 hR;go_upto_region 5 with(fail)
  rw[<-g6];clear g6;go_wp2_with fail;apply a6.mono;rintro e w3 ⟨⟨ra,rc,rfl,hR,j5⟩,a2⟩;have g7:=zh hR;have j6:=zh (j4.step a2 zi);have b8:=zg4 (b7.1.no a2) (b7.2.1.fr a2 (λ_ _=>id)) (AttOf.no b7.2.2.1 a2) (a2.heap b7.2.2.2 id);have m6:=hR.lenmax;clear hR j5 a2 a6 t2;go_wp2_with fail;go_loopw [12] (λx wi=>∃ (j:Q),j<=(R:Q)/\x=aj ak (j:ag)/\Fr No w3 wi) (λx _=>(R:Q)-(ax x).toNat);case atStart=>exact⟨0,by omega,rfl,ay _ _⟩
  case round=>
   obtain⟨j,hj,rfl,I⟩:=hrel;by_cases j7:j<(R:Q)
   .have g8:(j:ag)<(R:Q):=(by omega);obtain⟨bb,j8,rr,rfl,j9,_,g9⟩:=(g7.no I (λ_=>id)).elem j7;have q0:=g9.c0;have e0:=zh I;clear g9 j9 I;go_wp2_with fail;apply (zOw _ _).mono;rintro e w4 ⟨rfl,rfl⟩;go_wp2;go_roundw;case rel=>exact⟨j+1,by omega,by go_num,e0⟩
    case measure=>simp[ax];omega
   .obtain rfl:j=(R:Q):=by omega
    have g8:¬ ((R:Q):ag)<(R:Q):=(by omega);have e0:=zh (j6.step I zi);have b9:=zg4 (b8.1.no I) (b8.2.1.fr I (λ_ _=>id)) (AttOf.no b8.2.2.1 I) (I.heap b8.2.2.2 id);have k0:ai (Recs _ ra rc R):=g7.no I (λ_=>id);clear I;go_upto_region 11 with(fail)
    refine zO No [(0,al),(1,al),(2,al),(3,al),(4,al),(5,ao),(6,ao),(7,al)] (λw5 V=>?_);have d2:=V.heap b9.2.2.2 id;have F5:=zh (e0.step V zi);have S5:ai (StK w5 tb (w:Q) ka ea kc xc K E):=HS.no F5;have t2:∀ g:Gr No w5,g.W ⟨w1,0,B⟩=ae (ah ta ds tc):=λg=>zB (g.fr.heap d2 id) 0
    have t5:∀ g:Gr No w5,g.W ⟨w,0,B⟩=ae (ah ka K kc):=λg=>zB (g.fr.heap S5.box id) 0
    have t6:∀ g:Gr No w5,g.W ⟨w,1,B⟩=ae (aj ak 0):=λg=>zB (g.fr.heap S5.box id) 1
    have E5:ai (Env w5):=HE.from h8 ((EvF.from (tb:=F) d6 (bx _) a3).step F5 zn);have T5:=zg3 (b9.1.no V) (b9.2.1.fr V (λ_ _=>id)) (AttOf.no b9.2.2.1 V);have a7:=zNt ta ra ka ea tc rc kc xc (wA:Q) 0 ds R E K ct z w5 T5.1 d8 T5.2.2 (k0.no V (λ_=>id)) E5 S5.es S5.ks j1 j2;have s5:=F5.size;clear d2 V;(repeat apply zR rfl rfl rfl;intro K hK;go_big_quiet_op;go_big_quiet_on);clear t2 t5 t6;apply zu rfl;go_wp2_with fail;apply a7.mono;rintro e w6 ⟨⟨ma,mc,M,rfl,hV,k3,k4,hM,re,h1⟩,N⟩;have s6:=N.size;have F6:=zh (F5.step N zi);have a8:=u_plan2 (wA:Q) ta tc ds ct M ma mc z w6 (T5.1.no N) d8 hM ⟨g3,by omega⟩ (E5.fr N (λ_ _=>id)) (T5.2.1.fr N (λ_ _=>id)) (AttOf.no T5.2.2 N) hV (by omega);have HM:=zg2 hM h1;clear a7 hV k3 k4 hM h1;go_wp2_with fail;apply zf N;clear N;apply zu rfl;go_wp2_with fail;apply a8.mono;rintro e w7 ⟨⟨A,av,cv,rfl,hP⟩,d0⟩;have F7:=zh (F6.step d0 zi);have HP:=zh hP;have s7:=d0.size;clear a8 hP;go_wp2_with fail;apply zf d0;clear d0;(repeat apply zR rfl rfl rfl;intro K hK;go_big_quiet_op;go_big_quiet_on);apply zb;have K7:ai (KA w7 F y L ct z nn):=HK.no a3 F7;have S7:ai (StK w7 tb (w:Q) ka ea kc xc K E):=HS.no F7;have G7:ai (EvF F y w w7/\EvG F w w7):=⟨cr d6 (EvF.no F7),cu HG (EvG.no F7) HK.v⟩
    by_cases h0:(A:Q)=0
    .have he:(((A:Q):ag)==0)=true:=(by simp[h0]);have a9:ai (DoneP M L ct z):=by
      rcases HP.out with⟨_,h⟩|⟨_,K2,ck,e4,J,hd,_⟩
      .rw[Z]at h;exact h
      .have ho:A=[]:=dk h0;subst ho;rw[Z]at J;cases J;exact hd
     go_wp2;go_ret;exact⟨rfl,⟨L,ct,z,nn,K7,⟨HI.u,HI.d,ds,R,re,M,Z,d9,HM.2,HM.1,a9⟩,g3,by omega,by omega⟩,G7⟩
    .have he:(((A:Q):ag)==0)=false:=(by simp[h0]);obtain⟨d1,K2,ck,e4,J,hD,Y,l8,m7,d3,d4⟩:=HP.resolve_left (λh=>h0 (by rw[h.1];rfl));rw[Z]at d1 J Y;have ht:r<=31:=HI.le Z d9 HM.2 d1;have k5:=zh d1;have h2:ai (KRun 44 L ct z (A.drop 0) K2 ck e4):=J;have a9:=zg2 hD (Y D HI.d);have h3:=zg2 d3 d4;obtain⟨l9,h4⟩:=K7.blk;have b1:=zh h4;clear HP d1 J hD Y d3 d4 h4;go_wp2_with fail;go_loopw [14] (λx wj=>∃ (jj nj:Q) (Lj:af Dev) (cj:ag->ab) (O:ag),jj<=(A:Q)/\x=aj ak (jj:ag)/\nj<=nn+45*jj/\ai (KRun 44 Lj cj O (A.drop jj) K2 ck e4)/\ai (KA wj F y Lj cj O nj)/\ai (EvF F y w7 wj)/\ai (EvG F w7 wj)) (λx _=>(A:Q)-(ax x).toNat);case atStart=>exact⟨0,nn,L,ct,z,by omega,rfl,by omega,h2,K7,EvF.no (ay _ _),EvG.no (ay _ _)⟩
     case round=>
      obtain⟨jj,nj,Lj,cj,O,m8,rfl,m9,h5,e5,X,h6⟩:=hrel;obtain⟨wj,rfl⟩:=ε wr
      have sj:=bv X;by_cases h7:jj<(A:Q)
      .have e6:(jj:ag)<(A:Q):=(by omega);obtain⟨o,ho⟩:∃ o,A[jj]?=ae o:=⟨_,dq h7⟩
       obtain⟨l1,x1,L1,c1,h9,d5,b3⟩:=KRun.step ho h5;have b4:=cq X h3.1 b1 (by decide) (by decide);have b5:=OpsOk.ev h3.2 X b1;obtain⟨b,j8,k6,⟨o0,o1,o2,o3,o4,o5,o6,o7,o8,o9,k7,k8,k9,l0⟩⟩:=zP7 b4 rfl ho;obtain⟨i0,i3,_⟩:=b5 o (bi ho);have i4:Env wj:=HE.from h8 ((EvF.from (tb:=F) G7.1 (bx _) a3).step (EvF.from (tb:=F) X (bx _) a3) zi);have e7:=zQr F y nj Lj L1 cj c1 O h9 o wj e5 i4 h8 (by omega) (by omega) x1 (by omega) ⟨i0,i3⟩ d5;have l3:=zh b3;subst k6;unfold OpA.vals ocs at e7;clear d5 b3 b4 b5 ho i0 i3 i4;go_wp2_with fail;apply e7.mono;rintro e w8 ⟨⟨i9,rfl⟩,i5,i6,i7⟩;have l4:=zh i5;have i8:ai (EvF F y w7 w8/\EvG F w7 w8):=⟨cr X i6,cu h6 i7 e5.v⟩
       clear e7 i5 i6 i7 o0 o1 o2 o3 o4 o5 o6 o7 o8 o9 k7 k8 k9 l0;go_wp2;go_roundw;case rel=>exact⟨jj+1,nj+(Lj:Q)+1,L1,c1,h9,by omega,by go_num,by omega,l3,l4,i8.1,i8.2⟩
       case measure=>simp[ax];omega
      .obtain rfl:jj=(A:Q):=by omega
       have e6:¬ ((A:Q):ag)<(A:Q):=(by omega);obtain⟨e1,e2,e3⟩:=KRun.done h5;have l5:ai (SetT E K D (r+1) Lj cj O):=by
        rw[<-e1,<-e2,<-e3];exact SetT.step HI Z d9 HM.2 HM.1 k5 a9.1 a9.2
       have hp:0<=O/\O<=z+44:=by
        have:=a9.1.p;omega
       have GJ:ai (EvF F y w wj/\EvG F w wj):=⟨cr G7.1 X,cu G7.2 h6 K7.v⟩
       have SJ:ai (StK wj tb (w:Q) ka ea kc xc K E):=S7.ev X b1;clear e1 e2 e3;go_wp2;go_roundw;case rel=>exact⟨r+1,nj,Lj,cj,O,by omega,by go_num,by omega,hp.1,by omega,l5,e5,SJ,GJ.1,GJ.2⟩
       case measure=>simp[ax];omega
section
variable {ds:af Dev}{tx:Dev->ab}{E K:af ab}{C S S':af Src}{r:ag}{M M':af Vir}{G G':af (ab×ab)}
end
section
variable {w0 W W':au}{tb sb k1 k2:Q}{ka ea:aq ar}{kc xc:Q}{K E:af ab}{kt kt':Q}{L1 L1' L2:af Dev}{c1 c1' c2:ag->ab}{i1 i1' i2:ag}{n1 n1' n2:Q}
end
structure DkN (D:af (ab×ag×ab))(ns:af ab)(i:Q)(dn:Q->ab):Prop where
 el:∀ x∈D,∃ k:Q,i<k/\k<=4/\x.1=dn k/\x.2.1=k
 nm:D.map (λx=>x.1)=ns.reverse
 nd:ns.Nodup
theorem DkN.step {D:af (ab×ag×ab)}{z:af ab}{i:Q}{o:Q->ab}(h:DkN D z (i+1) o)(O:i<4)(v:∀ k,i+1<k->k<=4->o k≠o (i+1))(c:ab):DkN ((o (i+1),((i+1:Q):ag),c)::D) (z++[o (i+1)]) i o:=by
 refine⟨λx u=>?_,by rw[ci,h.nm,List.reverse_append];rfl,?_⟩
 .rcases List.mem_cons.1 u with rfl|u
  .exact⟨i+1,by omega,by omega,rfl,rfl⟩
  .obtain⟨k,A,y⟩:=h.el x u;exact⟨k,by omega,y⟩
 .rw[List.nodup_append];refine⟨h.nd,by simp,λa F b I=>?_⟩;obtain rfl:=List.mem_singleton.1 I;have J:a∈D.map (λx=>x.1):=by rw[h.nm];exact List.mem_reverse.2 F
  obtain⟨x,u,rfl⟩:=List.mem_map.1 J;obtain⟨k,A,y,N,_⟩:=h.el x u;rw[N];exact v k A y
def diskN (i:Q):ab:=⟨#[115,100,UInt8.ofNat (97+i)]⟩
theorem zFN {i:Q}(h:1<=i)(o:i<=4):isDk (diskN i)=true:=by
 rcases(by omega:i=1\/i=2\/i=3\/i=4)with rfl|rfl|rfl|rfl<;>kernel_rfl
theorem zG6 {i:Q}(o:i<=4)(u:j<=4)(e:diskN i=diskN j):i=j:=by
 have h:=aw (λb:ab=>b.data.toList[2]?.map UInt8.toNat) e;simp[diskN]at h;omega
theorem zQn (u n:Q)(L:af Dev)(ct:ag->ab)(v:ag)(D:af (ab×ag×ab))(nm c:ab)(o:ag)(I:aq ar)(J:Q)(w:au)(X:KA w u (u+1) L ct v n)(O:UOk L ct v)(V:DskP D L ct)(z:isDk nm=ao)(y:1<=o/\o<1048576)(A:∀ x∈D,x.1≠nm/\x.2.1≠o)(Y:InU c)(Z:Atts w I J (cAtt c))(hE:Env w)(h8:8<u)(hn:n<=50000000)(U:0<=v/\v<=900000)(hb:u+1<=(w:Q)):
  be az 20 #[bg (ae ⟨u,0,B⟩),ba (ocs 1 () ⟨0,0,(),nm,zX,(),(),2,o,I,(cAtt c).length,J⟩ () ())] w λe w'=>e=.returned (.tuple #[aj ak (v+1),aj ak 0])/\(∃ N F,KA w' u (u+1) N F (v+1) (n+1)/\UOk N F (v+1)/\DskP ((nm,o,c)::D) N F/\∀ d∈N,d∈L\/d.orig=nm)/\EvF u (u+1) w w'/\EvG u w w':=
 (zLU u (u+1) n L ct v 0 () () () c ⟨0,0,(),nm,zX,(),(),2,o,I,(cAtt c).length,J⟩ w X O hE h8 hn U hb Z rfl ⟨rfl,rfl,rfl,y.1,by show o<=2000000;omega⟩ (.inl ⟨zMB O,rfl,rfl⟩) (.inl ⟨rfl,zNW z⟩) Y (λh=>bn rfl h) (V.free z y.2 A)).mono λe w' h=>⟨h.1,⟨_,_,h.2.1,h.2.2.1,V.put O (x:=⟨0,0,(),nm,zX,(),(),2,o,I,(cAtt c).length,J⟩) z,λd hd=>(zV.1 hd).elim (λe=>.inr (by rw[e];rfl)) .inl⟩,h.2.2.2.1,h.2.2.2.2⟩
structure PK (w0 W:au)(tb kb kt:Q)(L:af Dev)(c:ag->ab)(i:ag)(n:Q):Prop where
 a:KA W kb (kb+1) L c i n
 tp:Tape W tb tb kt
 fr:Fr (From tb) w0 W
 lt:tb<kb/\kb<(W:Q)
section
variable {w0 W W':au}{tb kb:Q}{kt kt':Q}{L L':af Dev}{c c':ag->ab}{i i':ag}{n n':Q}
theorem PK.ev (h:PK w0 W tb kb kt L c i n)(v:KA W' kb (kb+1) L' c' i' n')(o:EvF kb (kb+1) W W'):PK w0 W' tb kb kt L' c' i' n':=by
 obtain⟨u,y⟩:=h.lt;have z:=bv o;exact⟨v,EvF.tape o u (by omega) h.tp,h.fr.step (EvF.from o (by omega) (by omega)) zi,u,by omega⟩
theorem PK.tape (h:PK w0 W tb kb kt L c i n)(u:Fr (Is tb) W W')(y:Tape W' tb tb kt'):PK w0 W' tb kb kt' L c i n:=by
 obtain⟨z,A⟩:=h.lt;have F:=u.size;have v:∀ b,Is tb b->b=tb:=λb o=>o
 exact⟨h.a.low (dw _) u (λb I _ o=>by have:=v b o;omega),y,h.fr.step u (λb _ o=>by have:=v b o;omega),z,by omega⟩
theorem PK.no (h:PK w0 W tb kb kt L c i n)(o:Fr No W W'):PK w0 W' tb kb kt L c i n:=
 h.tape (o.mono λ_ _ h=>h.elim) (h.tp.fr o (λ_ _=>id) id)
theorem PK.env (h:PK w0 W tb kb kt L c i n)(o:Env w0)(u:8<tb):Env W:=o.from u h.fr
theorem PK.row {z m:Q}{v:bf}{F:af bf}(h:PK w0 W tb kb kt L c i n)(A:W.ownsRow z 9 1 v m F)(y:Fr (λb=>v.ownBlock=ae b) W W')(N:tb<z):PK w0 W' tb kb kt L c i n:=by
 obtain⟨I,O⟩:=h.lt;have U:=y.size;have o:∀ b,v.ownBlock=ae b->z<=b:=λb J=>(zAF A J).1
 exact⟨h.a.row A (by decide) y,h.tp.fr y (λb V u=>by have:=o b u;omega) (λu=>by have:=o _ u;omega),h.fr.step y (λb _ u=>by have:=o b u;omega),I,by omega⟩
end
theorem zNa (W:au)(x:UInt8)(n:ag)(h:n=(x.toNat:ag)):(convert 67 9 (ah (ae ⟨W,0,B⟩) 1 1)).run az (W.alloc (am #[aj .u8 n] 5))=.ok (ap ⟨#[x]⟩) (W.alloc (am #[aj .u8 n] 5)):=by
 subst h;refine Lib.run_convert_whole (P:=az) _ 67 5 9 Tryz.underlying67 Tryz.underlying5 dg (W:Q) 0 ⟨#[x]⟩ (λi o=>?_) 1;have:i=0:=by have u:i<1:=o;omega
 subst this;rw[zB (zF _ _)];rfl
theorem zM6 (w0 w:au)(tb k1 kk:Q)(c1:ag->ab)(h:PK w0 w tb k1 kk [] c1 0 0)(hE:Env w0)(h8:8<tb)(i5:kk<=1000):
  be az 5 #[bg (ae ⟨tb,0,B⟩),bg (ae ⟨k1,0,B⟩),aj ak 4] w λe w'=>∃ (a:aq ar) (c:Q) (o:af ab) (D:af (ab×ag×ab)) (L:af Dev) (ct:ag->ab) (z:ag) (n u:Q),e=.returned (ah a o c)/\Strs w' a c o/\BlkT w' a 9/\(∀ ad,a=ae ad->(w:Q)<=ad.block)/\(o:Q)<=4/\UOk L ct z/\DskP D L ct/\DkN D o 0 diskN/\(∀ d∈L,isDk d.orig=ao)/\0<=z/\z<=4/\n<=4/\u<=kk+9/\PK w0 w' tb k1 u L ct z n:=by
 obtain⟨i0,e2,e3,e4,e5⟩:=cn infoS;have F:=zCd tb tb kk 4 w h.tp (by omega) (by omega) (by omega);have i6:=h.lt;have HP:=zh h;have HE:=zh hE;clear h hE;go_enter Tryz.func5,Tryz.ntmps5;go_wp2_with fail;apply F.mono;rintro e w1 ⟨q,rfl,e6,i7,b0,a2⟩;obtain⟨q,rfl⟩:=di e6;have b1:=zh (HP.tape a2 b0);have s1:=a2.size;clear F b0 a2;obtain⟨m,hm⟩:=ε (q+1)
 have i8:m<=4:=by omega
 go_wp2_with fail;go_loopw [7,8] (λv x wr=>∃ (i n u:Q) (L:af Dev) (ct:ag->ab) (z:ag) (av:aq ar) (cv:Q) (o:af ab) (D:af (ab×ag×ab)),i<=m/\x=aj ak (i:ag)/\v=ah av o cv/\(o:Q)+i<=m/\n+i<=m/\0<=z/\z+i<=m/\u+2*i<=kk+9/\(w:Q)<=(wr:Q)/\ai (UOk L ct z/\DskP D L ct/\DkN D o i diskN/\∀ d∈L,isDk d.orig=ao)/\ai (PK w0 wr tb k1 u L ct z n)/\ai (wr.ownsRow (w:Q) 9 1 (ah av o cv) (o:Q) (o.map bs))) (λ_ x _=>(ax x).toNat);case atStart=>exact⟨m,0,kk+1,[],c1,0,B,0,[],[],by omega,by rw[hm];first|rfl|(go_num;done)|(simp;done)|(simp;omega),rfl,by simp,by omega,by omega,by omega,by omega,by omega,⟨UOk.nil _ _,DskP.nil _,⟨λx hx=>by simp at hx,rfl,.nil⟩,λd hd=>by simp at hd⟩,b1,cm _ _ _ _⟩
 case round=>
  clear b1;obtain⟨i,n,u,L,ct,z,av,cv,o,D,i9,rfl,rfl,j0,hn,j1,j2,h6,j3,O,b2,HO⟩:=hrel;obtain⟨wA,rfl⟩:=ε wr
  by_cases h7:0<i
  .obtain⟨j,rfl⟩:∃ j,i=j+1:=⟨i-1,by omega⟩
   have h9:(0:ag)<((j+1:Q):ag):=(by omega);go_upto_region 5 with(fail)
   go_cut [9] (λv wx=>v=ap (diskN (j+1))/\Fr No wA wx);case first=>
    have c1:=zNa wA 98 98 (by decide);have c2:=zNa wA 99 99 (by decide);have c3:=zNa wA 100 100 (by decide);have c4:=zNa wA 101 101 (by decide);rcases(by omega:j=0\/j=1\/j=2\/j=3)with rfl|rfl|rfl|rfl
    all_goals
     go_wp2;go_meet;exact⟨rfl,(ay _ _).alloc _⟩
   case rest=>
    obtain⟨rfl,U⟩:=hcut;obtain⟨wB,rfl⟩:=ε wc
    have a3:=zh (b2.no U);have e7:=zh (zG HO U (λ_ _=>id));have sB:=U.size;clear U;obtain⟨nm,a4⟩:=ε (diskN (j+1))
    rw[<-a4];have V:=zh a4;clear a4;go_wp2_with fail;apply (zFz wB).mono;rintro e w3 ⟨rfl,b3,X⟩;have b4:=zh b3;have b5:=zh (a3.no X);have b6:=zh (zG e7 X (λ_ _=>id));have s3:=X.size;clear b3 X;have b7:=zCd tb tb u 16 w3 b5.tp (by omega) (by omega) (by omega);go_wp2_with fail;apply b7.mono;rintro e w5 ⟨q5,rfl,b8,i3,b9,I⟩;obtain⟨q5,rfl⟩:=di b8;have e8:q5<(zAJ:Q):=(by rw[zBu];omega);have s5:=I.size;have S5:Strs w5 (ae ⟨wB,0,B⟩) 16 zAJ:=b4.fr I (λad e _ h=>by cases e;unfold Is at h;dsimp only at h;have:=a3.lt;omega);obtain⟨b,j4,c,he,d0,d1⟩:=S5.at e8;cases he;rw[dx]at d1;have a5:=zGz c (bi d0);have e9:=zh (b5.tape I b9);have g0:=zh (zG b6 I (λb hb h=>by have:=(zAF b6 hb).1;have:=a3.lt;have:=HP.lt;omega));have d2:=zLT nm c ((j+1:Q):ag) w5 a5;have g5:=zh a5;clear b7 b9 I S5 d0 b4 a5;go_wp2_with fail;apply d2.mono;rintro e w6 ⟨⟨aa,ac,rfl,hA,_,_⟩,Y⟩;have s6:=Y.size;have J:=zh (e9.no Y);have g6:=zh (zG g0 Y (λ_ _=>id));have d3:∀ x∈D,x.1≠nm/\x.2.1≠((j+1:Q):ag):=λx hx=>by
     obtain⟨k,g1,g2,g3,g4⟩:=O.2.2.1.el x hx;refine⟨λe=>?_,by omega⟩;rw[g3,V]at e;have:=zG6 g2 (by omega) e;omega
    have a6:=zQn k1 n L ct z D nm c ((j+1:Q):ag) aa ac w6 J.a O.1 O.2.1 (by rw[V];exact zFN (by omega) (by omega)) ⟨by omega,by omega⟩ d3 g5 hA (J.env HE h8) (by omega) (by omega) ⟨by omega,by omega⟩ (by have:=J.lt;omega);obtain⟨i4,d4⟩:=J.a.blk;have g7:=zh d4;clear d2 hA Y d1 d4 d3;unfold ocs at a6;go_wp2_with fail;apply a6.mono;rintro e w7 ⟨rfl,⟨L',a7,d5,d6,d7,d8⟩,Z,g8⟩;have s7:=bv Z;have g9:=zh (J.ev d5 Z);have h0:=zh (cq Z g6 g7 (by decide) (by decide));have h3:ai (UOk L' a7 (z+1)/\DskP ((nm,((j+1:Q):ag),c)::D) L' a7/\DkN ((nm,((j+1:Q):ag),c)::D) (o++[nm]) j diskN/\∀ d∈L',isDk d.orig=ao):=⟨d6,d7,by have h:=O.2.2.1.step (by omega) (λk h1 h2 e=>by have:=zG6 h2 (by omega) e;omega) c;rw[<-V]at h;exact h,λd hd=>by
     rcases d8 d hd with h|h
     .exact O.2.2.2 d h
     .rw[h,V];exact zFN (by omega) (by omega)⟩
    clear a6 d5 d6 d7 d8 Z g8;have N:=h0.out;go_wp2_with (at_builtin;refine co _ rfl _ _ 30 rfl (w:Q) 9 i0 (ap bc) 1 16 df e2 e3 e4 e5 rfl (by decide) _ _ _ rfl (N.alloc _) ⟨w7,0,B⟩ 1 1 [ap nm] rfl rfl (dh _ _ _) (zBX [nm]) (by unfold bp;omega) (by omega) (by first|omega|(simp;done)|(simp;omega)) ?_;intro v' w9 y A _;obtain⟨d9,e0,rfl⟩:=zI y;skip)
    have a8:Fr No w7 (w7.alloc (am #[nm] 9)):=(ay _ _).alloc _;have a9:Fr (λb=>(br av o cv).ownBlock=ae b) (w7.alloc (am #[nm] 9)) w9:=cf A;have h4:=zh ((g9.no a8).row (N.alloc _) a9 (by omega));have h5:ai (w9.ownsRow (w:Q) 9 1 (ah d9 (o++[nm]).length e0) (o++[nm]).length ((o++[nm]).map bs)):=(by rw[bh,ch];exact y);have s9:=a9.size;have j5:=a8.size;clear y A a9 a8 N;go_roundw;case rel=>exact⟨j,n+1,u+1,L',a7,z+1,d9,e0,o++[nm],_,by omega,by first|(go_num;done)|(simp;done)|(simp;omega),by rw[bh];rfl,by rw[bh];show (o:Q)+1+j<=m;omega,by omega,by omega,by omega,by omega,by omega,h3,h4,h5⟩
    case measure=>simp[ax]
  .obtain rfl:i=0:=by omega
   obtain⟨ra,rc,ee,hR,e1⟩:=de HO;cases ee;have HR:=zg3 hR (zAI HO) e1;clear hR e1;go_wp2;go_ret;exact⟨_,_,o,D,L,ct,z,n,u,rfl,HR.1,HR.2.1,HR.2.2,by omega,O.1,O.2.1,O.2.2.1,O.2.2.2,by omega,by omega,by omega,by omega,b2⟩
theorem UOk.ond (h:UOk L ct b):(L.map ca).Nodup:=by
 have:=h.wf.ok.nd;unfold List.Nodup at this ⊢;rw[List.pairwise_map]at this ⊢;exact this.imp_of_mem λu v o e=>o (by rw[h.inj u v e])
section
variable {ds:af Dev}{ct:ag->ab}{ix r:ag}{E K:af ab}{D:af (ab×ag×ab)}{R:af Rec}{M:af Vir}
theorem zG3 (i:ab):exB ds i=exB (ds.map strip) i:=by
 unfold exB;rw[zCX,dy]
theorem SetE.done (h:SetE E K ig0 D (ds.map strip) ct ix)(hR:CntOk ds R ig0)(Z:EndC ds (λd=>ct d.index) E K (cntL ds R 0 ds) r M):DoneP M (ds.map strip) ct ix:=by
 obtain⟨y,R0,r0,M0,z,N,I,A,J⟩:=h.e;have O:∀ o,isDk o=al->ig0 o=false:=λ_ _=>rfl
 have V:UOk (y.map strip) ct ix:=by rw[z];exact h.u
 have X:DskP D (y.map strip) ct:=by rw[z];exact h.d
 have F:=J.fixed A.v A.d hR O;have U:Fixed y (λd=>ct d.index) (cntL y R0 0 y) M0:=DoneP.fixed (by rw[z];exact J) A.v A.d N O;have e:=EndC.eq (t:=r0) U.t F.t (sameD V h.u X h.d N hR λ_ _=>Iff.rfl) (λs hs r m hm=>.inr (by rw[zG3 (ds:=y),z,<-zG3])) (λr S M a2 S' G' _ Y _=>⟨U.mono (I.sub U.t Y),F.mono (I.sub U.t Y)⟩) I Z (Int.le_refl _);rw[<-e];exact J
theorem zG5 (A:DoneP M (ds.map strip) ct ix)(F:∀ v∈M,VOk v){v:Vir}(h:v∈M):∃ d∈ds,d.orig=v.o/\virB ds d.index=true:=by
 obtain⟨e,I,z⟩:=(zAu A.u (F v h)).1 (A.t v h);obtain⟨y,N,rfl⟩:=List.mem_map.1 I;have J:virB (ds.map strip) y.index=!isDk y.orig:=A.u.vir (d:=strip y) I;have z:y.orig=v.o:=z;rw[zAM,z,(F v h).n]at J;exact⟨y,N,z,J⟩
theorem zJ0 (z:DoneP M (ds.map strip) ct ix)(N:∀ v∈M,VOk v)(U:DistP M):(ds.filter λd=>virB ds d.index).length=(M:Q):=by
 have O:=z.u.ond;rw[List.map_map]at O;have V:((ds.filter λd=>virB ds d.index).map ca).Nodup:=O.sublist (List.filter_sublist.map _);have X:=zAg V (m:=M.map Vir.o) λx A=>by
  obtain⟨d,F,rfl⟩:=List.mem_map.1 A;obtain⟨I,y⟩:=List.mem_filter.1 F;have J:=(z.w (strip d) (bm I) (by rw[<-zAM]at y;exact y)).1;obtain⟨v,h,e⟩:=List.any_eq_true.1 J;have Y:v.o=d.orig:=aw cl (bz e);rw[<-Y];exact bm h
 have I:=zAg (zHj N U) (m:=(ds.filter λd=>virB ds d.index).map ca) λx A=>by
  obtain⟨v,h,rfl⟩:=List.mem_map.1 A;obtain⟨d,y,J,Z⟩:=zG5 z N h;rw[<-J];exact bm (List.mem_filter.2 ⟨y,Z⟩)
 rw[bw,bw]at X I;omega
theorem zPQ (z:DoneP M (ds.map strip) ct ix)(J:∀ v∈M,VOk v)(V:DistP M){v:Vir}(h:v∈M):∃ d∈ds,ds.find? (atP ds (v.q++(⟨#[47]⟩:ab)++v.o))=ae d/\ct d.index=v.c:=by
 obtain⟨y,X,N,A⟩:=zG5 z J h;have I:=bm (f:=strip) X;have F:=zHE z.u.wf I;have Y:plc (ds.map strip) (strip y).index=v.q++(⟨#[47]⟩:ab)++v.o:=by
  rw[z.u.pth I,(J v h).path];exact aw (λo=>pathOf (orgOf o)) N
 rw[Y,zCX]at F;cases hf:ds.find? (atP ds (v.q++(⟨#[47]⟩:ab)++v.o))with
 | none=>rw[hf]at F;cases F
 | some d=>
  rw[hf]at F;have e:strip d=strip y:=Option.some.inj F;have O:(strip d).index=(strip y).index:=by rw[e]
  have O:d.index=y.index:=O;refine⟨d,cz hf,rfl,?_⟩;have U:=(z.w (strip y) I (by rw[<-zAM]at A;exact A)).2;have Z:plc (ds.map strip) (strip y).parent=v.q:=z.u.key I (J v h) N;have h5:(strip y).orig=v.o:=N;rw[Z,h5,zIF V h]at U;rw[O];exact U
end
theorem zHa (d:Dev)(c:ab)(w:au)(z:Atts w d.aa d.ac (cAtt c))(h:d.an=(cAtt c).length):
  be az 13 #[ba d.vals] w λe w'=>e=.returned c/\Fr No w w':=by
 obtain⟨J,o,u,A⟩:=zy w (am d.vals 48);have F:=(DevB.of A).c9;rw[h]at F;have v:=zMn d.aa d.ac (cAtt c) zM J (z.no u (λ_=>id));rw[zCs]at v;have O:=zh u;have U:=zh h;obtain⟨N,I⟩:=ε ((cAtt c).length)
 rw[<-I]at F v;clear u A z h I;unfold cb at o ⊢;go_enter Tryz.func13,Tryz.ntmps13;go_upto_region 1 with(fail)
 rw[<-o];clear o;go_wp2_with fail;apply v.mono;rintro e V ⟨⟨X,rfl⟩,y⟩;go_wp2;go_ret;exact⟨rfl,O.step y zi⟩
theorem zPP {α:Type}{p:α->Bool}{l:af α}{k:Q}{x d:α}(h:l.find? p=ae d)(u:l[k]?=ae x)(v:∀ y∈l.take k,p y=al)(z:p x=ao):x=d:=by
 obtain⟨o,rfl⟩:=List.getElem?_eq_some_iff.1 u;rw[<-List.take_append_drop k l,List.find?_append,List.find?_eq_none.2 (λy A=>by simpa using v y A),List.drop_eq_getElem_cons o,dm z]at h;exact Option.some.inj h
theorem zPy (a:aq ar)(o I:Q)(ds:af Dev)(s:ab)(d:Dev)(w:au)(hl:Tr w I a o ds)(hn:(ds:Q)<=250)(hf:ds.find? (atP ds s)=ae d):
  be az 12 #[ba #[ah a ds o],s] w λe w'=>e=.returned (.tuple #[ba d.vals,.bool ao])/\Fr No w w':=by
 obtain⟨W0,a2,x0,b0,b1⟩:=zw w (am #[ah a ds o] 39) (am #[aj ak 0,aj ak 0,(),(),(),(),(),aj ak 0,aj ak 0,ah B 0 0] 48);have J:=zg3 (hl.no x0) b0 b1;have a9:=zh x0;have HF:=zh hf;have hm:=hl.dv.lenmax;clear hl x0 b0 b1 hf;go_enter Tryz.func12,Tryz.ntmps12;go_upto_region 1 with(fail)
 rw[<-a2];clear a2;go_wp2_with fail;go_loopw [6] (λi wr=>∃ k:Q,k<=(ds:Q)/\i=aj ak (k:ag)/\ai (∀ x∈ds.take k,atP ds s x=al)/\ai (Fr No W0 wr)) (λi _=>(ds:Q)-(ax i).toNat);case atStart=>exact⟨0,by omega,rfl,by unfold ai;simp,ay _ _⟩
 case round=>
  obtain⟨k,hk,rfl,HN,HW⟩:=hrel;obtain⟨wA,rfl⟩:=ε wr
  have bA:=HW.heap J.2.1 id;have cA:wA ⟨w,0,B⟩=ae (ah a ds o):=zB bA 0;by_cases b2:k<(ds:Q)
  .have b6:(k:ag)<(ds:Q):=by omega
   have TA:Tr wA I a o ds:=J.1.no HW;obtain⟨bb,N,x,O,U,a3⟩:=TA.dv.dev b2;have a4:=bi U;have z:=zg2 TA a3;have V:=zg2 a4 U;have b3:=zh O;rw[O]at cA bA;have a5:=zh bA;clear TA U a4 a3 O bA;go_upto_region 4 with(fail)
   clear cA;refine zO No [(0,al),(1,al),(2,al),(3,al),(4,al),(5,al),(6,al),(8,al),(7,ao),(9,al)] (λw1 A=>?_);have t1:∀ g:Gr No w1,g.W ⟨w,0,B⟩=ae (ah (ae ⟨bb,N,B⟩) ds o):=λg=>zB (g.fr.heap (A.heap a5 id) id) 0
   have t2:∀ g:Gr No w1,g.W ⟨bb,N+k*10,B⟩=ae (aj ak x.index):=λg=>g.fr.cell (A.cell z.2.c0 id) id
   have h:=zEC a o ds x.index w1 (z.1.no A).dv z.1.wf.ok (by omega);rw[b3]at h;obtain⟨pp,X⟩:=ε (pathOf (origin ds x.index))
   rw[<-X]at h;have a6:ai (atP ds s x=(pp.toList==s.toList)):=by
    unfold ai atP plc;rw[z.1.wf.ok.lk V.1,X];rfl
   have b4:=zh A;clear A X;(repeat(first|apply zR rfl rfl rfl|apply zT rfl rfl rfl);intro K hK;go_big_quiet_op;go_big_quiet_on);clear t1 t2;apply zu rfl;go_wp2_with fail;apply h.mono;rintro e w2 ⟨rfl,Y⟩;have u:=zh (b4.step Y zi);have Z:=zh (HW.step u zi);clear h;go_wp2_with fail;apply zf Y;clear Y;(repeat(first|apply zR rfl rfl rfl|apply zT rfl rfl rfl);intro K hK;go_big_quiet_op;go_big_quiet_on);apply zb;rcases hb:(pp.toList==s.toList)with _|_
   case false=>
    have b5:ai (∀ y∈ds.take (k+1),atP ds s y=al):=λy F=>by
     rw[da,V.2]at F;rcases List.mem_append.1 F with F|F
     .exact HN y F
     .simp at F;subst F;rw[a6.out];exact hb
    go_wp2;go_roundw;case rel=>exact⟨k+1,by omega,by go_num,b5,Z⟩
    case measure=>simp[ax];omega
   case true=>
    have hd:x=d:=zPP HF V.2 HN (a6.trans hb);subst hd;have r2:=Z.heap J.2.2 id;obtain⟨c0,c1,c2,c3,c4,c5,c6,c7,c8,c9⟩:=z.2;have v0:=u.cell c0 id;have v1:=u.cell c1 id;have v2:=u.cell c2 id;have v3:=u.cell c3 id;have v4:=u.cell c4 id;have v5:=u.cell c5 id;have v6:=u.cell c6 id;have v7:=u.cell c7 id;have v8:=u.cell c8 id;have v9:=u.cell c9 id;have cB:w2 ⟨w,0,B⟩=ae (ah (ae ⟨bb,N,B⟩) ds o):=u.cell (zB a5 0) id;obtain⟨z0,z1,z2,z3,z4,z5,z6,z7,z8,z9⟩:=DevB.of (d:=⟨0,0,(),(),(),(),(),0,0,B,0,0⟩) r2;obtain⟨y0,y1,y2,y3,y4,y5,y6,y7,y8,y9⟩:=DevF.of r2;have a7:=zA6 r2 rfl x;have a8:=zh ((a9.step Z zi).step a7.2 (λb hb e=>by omega));clear a7 r2 c0 c1 c2 c3 c4 c5 c6 c7 c8 c9;go_wp2_with fail;refine bodyPost_ret (v:=.tuple #[ba x.vals,.bool ao]) (by simp[results,Tryz.results12,go_sem,cb,z0,z1,z2,z3,z4,z5,z6,z7,z8,z9]) rfl ?_;exact⟨rfl,a8⟩
  .exfalso;have h1:=HF.out;rw[List.find?_eq_none.2 (λy F=>by
    have h2:=HN.out y (by rw[List.take_of_length_le (by omega)];exact F)
    simpa using h2)]at h1
   cases h1
def keysS : af ab:=[⟨#[99]⟩,⟨#[100]⟩,⟨#[120]⟩]
def expS : af ab:=[⟨#[114]⟩,⟨#[115]⟩,⟨#[120]⟩]
theorem zIJ {l:af ab}(v:(l:Q)=3){b i:Q}(o:W.heap[b]?=ae (am cs 9))(u:cs=(l.map bs).toArray)(y:i<3):∃ k∈l,W ⟨b,i,B⟩=ae (ap k):=by
 have h:=dq (l:=l) (i:=i) (by omega);refine⟨_,bi h,?_⟩;rw[zB o,u];simp[h]
theorem zLR (tb kk:Q)(w:au)(ht:Tape w tb tb kk)(i7:kk<=1000):
  be az 6 #[bg (ae ⟨tb,0,B⟩)] w λe w'=>(∃ (z ea:aq ar) (U ec J:Q) (K E:af ab),e=.returned (.tuple #[ba #[ah z K U,aj ak 0],ah ea E ec])/\Strs w' z U K/\Strs w' ea ec E/\BlkT w' z 9/\BlkT w' ea 9/\(∀ y,z=ae y->(w:Q)<=y.block)/\(∀ y,ea=ae y->(w:Q)<=y.block)/\(∀ x∈K,x∈keysS)/\(K:Q)<=3/\J<=kk+6/\Tape w' tb tb J)/\Fr (Is tb) w w':=by
 obtain⟨i0,e5,e6,e7,e8⟩:=cn infoS;have HT:=zh ht;have i8:=ht.lt;obtain⟨W0,a5⟩:=ε (((w.alloc (am #[ah B 0 0,aj ak 0] 33)).alloc (am #[ah B 0 0,aj ak 0] 33)).alloc (am #[ap ⟨#[99]⟩,ap ⟨#[100]⟩,ap ⟨#[120]⟩] 9))
 have x0:Fr No w W0:=by rw[a5];exact(((ay _ _).alloc _).alloc _).alloc _
 have b0:W0.heap[(w:Q)]?=ae (am #[ah B 0 0,aj ak 0] 33):=by rw[a5];exact((ay No _).alloc _).heap (zP _ _ _) id
 have b1:W0.heap[(w:Q)+1]?=ae (am #[ah B 0 0,aj ak 0] 33):=by rw[a5];exact((ay No _).alloc _).heap (zS _ _ _) id
 have b2:W0.heap[(w:Q)+2]?=ae (am #[ap ⟨#[99]⟩,ap ⟨#[100]⟩,ap ⟨#[120]⟩] 9):=by
  rw[a5];have h:=zF ((w.alloc (am #[ah B 0 0,aj ak 0] 33)).alloc (am #[ah B 0 0,aj ak 0] 33)) (am #[ap ⟨#[99]⟩,ap ⟨#[100]⟩,ap ⟨#[120]⟩] 9)
  simpa using h
 have s0:=zC b2;have h0:ai (Tape W0 tb tb kk):=HT.fr x0 (λ_ _=>id) id;have h3:ai (Fr (TB tb (w:Q)) w W0):=x0.mono zn;have h4:=zg3 b0 b1 b2;clear ht x0 b0 b1 b2;go_enter Tryz.func6,Tryz.ntmps6;go_wp2_with fail;rw[<-a5];clear a5;go_loopw [12] (λx wr=>∃ (i J:Q) (K:af ab) (z:aq ar) (U:Q),i<=3/\x=aj ak (i:ag)/\J<=kk+i/\(K:Q)<=i/\ai (∀ x∈K,x∈keysS)/\ai (wr.heap[(w:Q)]?=ae (am #[ah B 0 0,aj ak 0] 33)/\wr.heap[(w:Q)+1]?=ae (am #[ah z K U,aj ak 0] 33)/\wr.heap[(w:Q)+2]?=ae (am #[ap ⟨#[99]⟩,ap ⟨#[100]⟩,ap ⟨#[120]⟩] 9))/\ai (wr.ownsRow (W0:Q) 9 1 (ah z K U) (K:Q) (K.map bs))/\ai (Tape wr tb tb J)/\ai (Fr (TB tb (w:Q)) w wr)/\(W0:Q)<=(wr:Q)) (λx _=>3-(ax x).toNat);case atStart=>exact⟨0,kk,[],B,0,by omega,rfl,by omega,by simp,(by intro x hx;simp at hx),h4.out,cm _ _ _ _,h0,h3,bx _⟩
 case round=>
  obtain⟨i,J,K,z,U,hi,rfl,i9,j0,d3,Y,HO,a7,HF,j1⟩:=hrel;obtain⟨wA,rfl⟩:=ε wr
  by_cases a8:i<3
  .have e9:(i:ag)<3:=by omega
   obtain⟨k,b9,ck⟩:=zIJ (l:=keysS) rfl Y.2.2 rfl a8;have b3:=zCd tb tb J 3 wA a7 (by omega) (by omega) (by omega);have h5:=zh b9;clear b9;go_wp2_with fail;apply b3.mono;rintro e Z ⟨q,rfl,h6,h7,b4,o⟩;have b5:=zh b4;have s1:=o.size;have n1:∀ b,b≠tb->¬ Is tb b:=λb h1 h2=>h1 h2
   have N:=zg3 (o.heap Y.1 (n1 _ (by omega))) (o.heap Y.2.1 (n1 _ (by omega))) (o.heap Y.2.2 (n1 _ (by omega)));have b6:=zh (zG HO o (λb hb=>n1 _ (by have:=(zAF HO hb).1;omega)));have b7:ai (Fr (TB tb (w:Q)) w Z):=HF.step o (λb _ h=>by unfold Is at h;exact .inl h);clear b3 ck b4 o n1;by_cases hq:0<q
   .have g1:Z ⟨(w:Q)+1,0,B⟩=ae (ah z K U):=zB N.2.1 0;have g2:Z.frozen? ⟨(w:Q)+1,0,B⟩=false:=zD N.2.1 0;have I:=b6.out;have a3:Fr No Z (Z.alloc (am #[k] 9)):=(ay _ _).alloc _;have j2:(K:Q)<=3:=(by omega);go_wp2_with (at_builtin;refine co _ rfl _ _ 30 rfl (W0:Q) 9 i0 (ap bc) 1 16 df e5 e6 e7 e8 rfl (by decide) _ _ _ rfl (I.alloc _) ⟨Z,0,B⟩ 1 1 [ap k] rfl rfl (dh _ _ _) (zBX [k]) (by unfold bp;omega) (by omega) (by first|omega|(simp;done)|(simp;omega)) ?_;intro v' w9 u A _;obtain⟨V,X,rfl⟩:=zI u;have a4:Fr (λb=>(br z K U).ownBlock=ae b) (Z.alloc (am #[k] 9)) w9:=cf A;have k9:=a4.heap (a3.heap N.2.1 id) (zK I N.2.1 (by decide));have g3:w9 ⟨(w:Q)+1,0,B⟩=ae (ah z K U):=zB k9 0;have g4:w9.frozen? ⟨(w:Q)+1,0,B⟩=false:=zD k9 0)
    have f5:Fr (Is ((w:Q)+1)) w9 (w9.setCell ⟨(w:Q)+1,0,B⟩ (ah V ((K:Q)+1) X)):=cw (ay _ _) _;have k5:(w9.setCell ⟨(w:Q)+1,0,B⟩ (ah V ((K:Q)+1) X)).heap[(w:Q)+1]?=ae (am #[ah V ((K:Q)+1) X,aj ak 0] 33):=zE k9 0 _;generalize w9.setCell ⟨(w:Q)+1,0,B⟩ (ah V ((K:Q)+1) X)=W5 at *;have F:∀ b,(br z K U).ownBlock=ae b->(W0:Q)<=b:=λb hb=>(zAF I hb).1
    have O:Fr (λb=>(br z K U).ownBlock=ae b\/b=(w:Q)+1) Z W5:=((a3.mono zn).step a4 (λb _ h=>.inl h)).step f5 (λb _ h=>.inr h);have kp:∀ {b:Q} {cs:bu bf} {T:cc},Z.heap[b]?=ae (am cs T)->b<(W0:Q)->b≠(w:Q)+1->W5.heap[b]?=ae (am cs T):=λh h1 h2=>f5.heap (a4.heap (a3.heap h id) (λhb=>by have:=F _ hb;omega)) h2
    have d4:=zg3 (kp N.1 (by omega) (by omega)) k5 (kp N.2.2 (by omega) (by omega));have d5:ai (W5.ownsRow (W0:Q) 9 1 (ah V (K++[k]).length X) (K++[k]).length ((K++[k]).map bs)):=by
     unfold ai;rw[bh,ch];exact zG u f5 (λb hb h=>by have h2:=zK u k9 (by decide);unfold Is at h;subst h;exact h2 hb)
    have d6:ai (Tape W5 tb tb (J+1)):=b5.fr O (λb hb h=>by rcases h with h|h;(have:=F b h;omega);omega) (λh=>by rcases h with h|h;(have:=F _ h;omega);omega);have d7:ai (Fr (TB tb (w:Q)) w W5):=b7.step O (λb _ h=>.inr (by rcases h with h|h;(have:=F b h;omega);omega));have s5:=O.size;have d8:ai (∀ x∈K++[k],x∈keysS):=λx hx=>by
     rcases List.mem_append.1 hx with hx|hx
     .exact d3 x hx
     .simp at hx;subst hx;exact h5.out
    have g0:ai (W5.heap[(w:Q)]?=ae (am #[ah B 0 0,aj ak 0] 33)/\W5.heap[(w:Q)+1]?=ae (am #[ah V (K++[k]).length X,aj ak 0] 33)/\W5.heap[(w:Q)+2]?=ae (am #[ap ⟨#[99]⟩,ap ⟨#[100]⟩,ap ⟨#[120]⟩] 9)):=by
     unfold ai;rw[bh];exact d4
    have d9:(K++[k]).length<=i+1:=by rw[bh];show (K:Q)+1<=_;omega
    clear u A a4 a3 k9 f5 k5 O kp I g1 g2 g3 g4 F;go_roundw;case rel=>exact⟨i+1,J+1,K++[k],V,X,by omega,by go_num,by omega,d9,d8,g0,d5,d6,d7,by omega⟩
    case measure=>simp[ax];omega
   .go_wp2;go_roundw;case rel=>exact⟨i+1,J+1,K,z,U,by omega,by go_num,by omega,by omega,d3,N,b6,b5,b7,by omega⟩
    case measure=>simp[ax];omega
  .obtain rfl:i=3:=by omega
   obtain⟨a9,c9,e0,g5,g6⟩:=de HO;cases e0;obtain⟨W2,g7,x2,d2⟩:=zy wA (am #[ap ⟨#[114]⟩,ap ⟨#[115]⟩,ap ⟨#[120]⟩] 9);have s2:=zC d2;have e1:BlkT W2 z 9:=BlkT.fr (zAI HO) x2 (λ_ _=>id);have d0:∀ y,z=ae y->y.block<(W2:Q):=λy e=>by obtain⟨x,hx⟩:=e1 y e;exact zC hx
   have h8:ai ((Strs W2 z U K/\BlkT W2 z 9)):=⟨g5.no x2 (λ_=>id),e1⟩
   have e2:ai (∀ y,z=ae y->(w:Q)<=y.block):=λy e=>by have:=g6 y e;omega
   have h9:=zg3 (x2.heap Y.1 id) (x2.heap Y.2.1 id) d2;have i3:ai (Tape W2 tb tb J):=a7.fr x2 (λ_ _=>id) id;have i4:ai (Fr (TB tb (w:Q)) w W2):=HF.step x2 zn;have d1:=zh d0;clear g5 g6 x2 d2 e1 d0;go_wp2_with fail;rw[<-g7];clear g7;rw[show ((3:Q):ag)=3 from rfl];go_loopw [5,28] (λv x wr=>∃ (i a2:Q) (E:af ab) (ea:aq ar) (ec:Q),i<=3/\v=ah ea E ec/\x=aj ak (i:ag)/\a2<=kk+3+i/\(E:Q)<=i/\ai (wr.heap[(w:Q)]?=ae (am #[ah B 0 0,aj ak 0] 33)/\wr.heap[(w:Q)+1]?=ae (am #[ah z K U,aj ak 0] 33)/\wr.heap[(wA:Q)]?=ae (am #[ap ⟨#[114]⟩,ap ⟨#[115]⟩,ap ⟨#[120]⟩] 9))/\ai (wr.ownsRow (W2:Q) 9 1 (ah ea E ec) (E:Q) (E.map bs))/\ai (Strs wr z U K/\BlkT wr z 9)/\ai (Tape wr tb tb a2)/\ai (Fr (TB tb (w:Q)) w wr)/\(W2:Q)<=(wr:Q)) (λ_ x _=>3-(ax x).toNat);case atStart=>exact⟨0,J,[],B,0,by omega,rfl,rfl,by omega,by simp,h9,cm _ _ _ _,h8,i3,i4,bx _⟩
   case round=>
    obtain⟨i,a2,E,ea,ec,hi,rfl,rfl,j3,j4,Y,HO,a6,a7,HF,i6⟩:=hrel;obtain⟨wB,rfl⟩:=ε wr
    have j5:(w:Q)+2<(wA:Q):=(by omega);by_cases a8:i<3
    .have e9:(i:ag)<3:=(by omega);obtain⟨k,b9,ck⟩:=zIJ (l:=expS) rfl Y.2.2 rfl a8;have b3:=zCd tb tb a2 2 wB a7 (by omega) (by omega) (by omega);clear b9;go_wp2_with fail;apply b3.mono;rintro e Z ⟨q,rfl,h6,h7,b4,o⟩;have b5:=zh b4;have s1:=o.size;have n1:∀ b,b≠tb->¬ Is tb b:=λb h1 h2=>h1 h2
     have N:=zg3 (o.heap Y.1 (n1 _ (by omega))) (o.heap Y.2.1 (n1 _ (by omega))) (o.heap Y.2.2 (n1 _ (by omega)));have b6:=zh (zG HO o (λb hb=>n1 _ (by have:=(zAF HO hb).1;omega)));have b7:ai (Fr (TB tb (w:Q)) w Z):=HF.step o (λb _ h=>by unfold Is at h;exact .inl h);have e3:ai (Strs Z z U K/\BlkT Z z 9):=⟨a6.1.fr o (λy e _=>n1 _ (by have:=e2.out y e;omega)),a6.2.fr o (λy e=>n1 _ (by have:=e2.out y e;omega))⟩
     clear b3 ck b4 o n1;by_cases hq:q=0
     .subst hq;have I:=b6.out;have a3:Fr No Z (Z.alloc (am #[k] 9)):=(ay _ _).alloc _;have j6:(E:Q)<=3:=(by omega);go_wp2_with (at_builtin;refine co _ rfl _ _ 30 rfl (W2:Q) 9 i0 (ap bc) 1 16 df e5 e6 e7 e8 rfl (by decide) _ _ _ rfl (I.alloc _) ⟨Z,0,B⟩ 1 1 [ap k] rfl rfl (dh _ _ _) (zBX [k]) (by unfold bp;omega) (by omega) (by first|omega|(simp;done)|(simp;omega)) ?_;intro v' w9 u A _;obtain⟨V,X,rfl⟩:=zI u;skip)
      have a4:Fr (λb=>(br ea E ec).ownBlock=ae b) (Z.alloc (am #[k] 9)) w9:=cf A;have F:∀ b,(br ea E ec).ownBlock=ae b->(W2:Q)<=b:=λb hb=>(zAF I hb).1
      have O:Fr (λb=>(br ea E ec).ownBlock=ae b) Z w9:=(a3.mono zn).step a4 (λb _ h=>h);have kp:∀ {b:Q} {cs:bu bf} {T:cc},Z.heap[b]?=ae (am cs T)->b<(W2:Q)->w9.heap[b]?=ae (am cs T):=λh h1=>O.heap h (λhb=>by have:=F _ hb;omega)
      have d4:=zg3 (kp N.1 (by omega)) (kp N.2.1 (by omega)) (kp N.2.2 (by omega));have d5:ai (w9.ownsRow (W2:Q) 9 1 (ah V (E++[k]).length X) (E++[k]).length ((E++[k]).map bs)):=by
       unfold ai;rw[bh,ch];exact u
      have d6:ai (Tape w9 tb tb (a2+1)):=b5.fr O (λb hb h=>by have:=F b h;omega) (λh=>by have:=F _ h;omega);have d7:ai (Fr (TB tb (w:Q)) w w9):=b7.step O (λb _ h=>.inr (by have:=F b h;omega));have d8:ai (Strs w9 z U K/\BlkT w9 z 9):=⟨e3.1.fr O (λy e _ h=>by have:=F _ h;have:=d1.out y e;omega),e3.2.fr O (λy e h=>by have:=F _ h;have:=d1.out y e;omega)⟩
      have s5:=O.size;have d9:(E++[k]).length<=i+1:=by rw[bh];show (E:Q)+1<=_;omega
      have i5:ai ((E:Q)+1=(E++[k]).length):=(by unfold ai;rw[bh];rfl);clear u A a4 a3 O kp I F;go_roundw;case rel=>exact⟨i+1,a2+1,E++[k],V,X,by omega,by rw[<-i5],by go_num,by omega,d9,d4,d5,d8,d6,d7,by omega⟩
      case measure=>simp[ax];omega
     .have j7:(q==0)=false:=(by simpa using hq);go_wp2;go_roundw;case rel=>exact⟨i+1,a2+1,E,ea,ec,by omega,rfl,by go_num,by omega,by omega,N,b6,e3,b5,b7,by omega⟩
      case measure=>simp[ax];omega
    .obtain rfl:i=3:=by omega
     obtain⟨a9,c9,e0,g8,g9⟩:=de HO;cases e0;have z0:wB ⟨w,0,B⟩=ae (ah B 0 0):=zB Y.1 0;have z1:wB ⟨w,1,B⟩=ae (aj ak 0):=zB Y.1 1;have y0:=zD Y.1 0;have y1:=zD Y.1 1;have u0:wB ⟨(w:Q)+1,0,B⟩=ae (ah z K U):=zB Y.2.1 0;have u1:wB ⟨(w:Q)+1,1,B⟩=ae (aj ak 0):=zB Y.2.1 1;obtain⟨W3,e4⟩:=ε ((wB.setCell ⟨w,0,B⟩ (ah z K U)).setCell ⟨w,1,B⟩ (aj ak 0))
     have c3:W3.heap[(w:Q)]?=ae (am #[ah z K U,aj ak 0] 33):=(by rw[e4];exact zE (zE Y.1 0 _) 1 _);have f3:Fr (Is (w:Q)) wB W3:=(by rw[e4];exact cw (cw (ay _ _) _) _);obtain⟨x0,x1⟩:=cl2 c3;have b8:∀ {a:aq ar},BlkT wB a 9->∀ y,a=ae y->¬ Is (w:Q) y.block:=λhb y e h=>by
      obtain⟨x,hx⟩:=hb y e;unfold Is at h;rw[h,Y.1]at hx;injection hx with hx
      injection hx with _ hx
      exact bn hx (by decide)
     have HR:=zg7 (a6.1.fr f3 (λy e _=>b8 a6.2 y e)) (g8.fr f3 (λy e _=>b8 (zAI HO) y e)) (a6.2.fr f3 (b8 a6.2)) (BlkT.fr (zAI HO) f3 (b8 (zAI HO))) (a7.fr f3 (λb hb h=>by omega) (λh=>by omega)) g9 ((HF.step f3 (λb _ h=>.inr (by omega))).mono (T:=Is tb) (λb hb h=>by omega));clear c3 f3 g8 g9 b8;go_wp2_with fail;rw[<-e4];refine bodyPost_ret (v:=.tuple #[ba #[ah z K U,aj ak 0],ah ea E ec]) (by simp[results,Tryz.results6,go_sem,x0,x1]) rfl ?_;exact⟨⟨z,ea,U,ec,a2,K,E,rfl,HR.1,HR.2.1,HR.2.2.1,HR.2.2.2.1,e2,λy e=>by have:=HR.2.2.2.2.2.1 y e;omega,d3,by omega,by omega,HR.2.2.2.2.1⟩,HR.2.2.2.2.2.2⟩
def sxT : ab:=⟨#[116,97,98,108,101,58,116,40,114,97,105,100,58,114,58,49,47,49,47,49,40,102,115,58,120,58,41,41]⟩
def sxR : ab:=⟨#[114,97,105,100,58,114,58,49,47,49,47,49,40,102,115,58,120,58,41]⟩
def sxX : ab:=⟨#[102,115,58,120,58]⟩
def sxA : ab:=⟨#[115,100,97]⟩
def sxB : ab:=⟨#[115,100,97,112,49]⟩
def sxPA : ab:=⟨#[47,115,100,97]⟩
def sxPB : ab:=⟨#[47,115,100,97,47,115,100,97,112,49]⟩
def sxI : ab:=⟨#[114]⟩
def sxM : ab:=⟨#[109,100,45,114]⟩
def sxCR : Ct:=.mk 2 sxI () 1 1 1 [.mk 1 ⟨#[120]⟩ () 0 0 0 []]
def sxCT : Ct:=.mk 5 ⟨#[116]⟩ () 0 0 0 [sxCR]
theorem zNz: Lib.itoa 1=[49]:=by kernel_rfl
theorem sxPR: parseC sxR=ae sxCR:=(zBI _ _).2 ⟨by decide,by decide,by rw[sxCR,zJa];simp[zKS,commas,sxR,sxI,zNz];rfl⟩
theorem sxPT: parseC sxT=ae sxCT:=(zBI _ _).2 ⟨by decide,by decide,by rw[sxCT,zKR];simp[sxCR,zJa,zKS,commas,sxT,sxI,zNz];rfl⟩
theorem sx_x: sxCR.inner.map Ct.txt=[sxX]:=by simp[sxCR,Ct.inner,txt1,sxX];rfl
theorem zQd: sxCR.txt=sxR:=zDa (by rw[zCK];exact((zBI _ _).1 sxPR).2.2)
theorem sx_r: sxCT.inner.map Ct.txt=[sxR]:=by simp[sxCT,Ct.inner,zQd]
def sxV (r:ag):Vir:=⟨sxPA,sxB,sxR,r⟩
def sxW (r:ag):Vir:=⟨(),sxM,sxX,r⟩
theorem zDk {L:af Mem}(h:L.map Mem.k=[]):L=[]:=by simpa using h
theorem zIy {u:Mem->Bool}(h:IsIds2 (zU u []) o):o=[]:=by
 cases o with
 | nil=>rfl
 | cons x t=>
  obtain⟨s,v⟩:=(h.mem x).1 (by simp);cases v
theorem zLd (h:IsIds [] o):o=[]:=by
 cases o with
 | nil=>rfl
 | cons x t=>exact bn ((h.mem x).1 (by simp)) (by simp[best])
section
variable {ds:af Dev}{tx:Dev->ab}{E K:af ab}{r:ag}{S:af Src}{M M3:af Vir}{G G2:af (ab×ab)}
theorem zO8 (h:MidR ds tx E K r S M G M3 G2)(A:S.filterMap (λs=>ofK 2 mk2 s.o s.r (tx s.d))=[])(F:S.filterMap (λs=>ofK 3 mk3 s.o s.r (tx s.d))=[]):M3=wantS tx S M r (S:Q)/\G2=G:=by
 obtain⟨X,u,I,Y,Z,v,y,J,N,O,z,U,V⟩:=h;rw[A]at y;obtain rfl:=zDk y;obtain rfl:=zIy J;obtain rfl:I=[]:=by simpa using N
 rw[F]at z;obtain rfl:=zDk z;obtain rfl:=zLd U;injection O with b1 b2
 exact⟨by rw[V,b1];rfl,b2⟩
theorem zIk {u:af Vir}{v:af (ab×ab)}(h:NextR ds tx E K C r S M G A u v)(F:S.filterMap (λs=>ofK 4 mk4 s.o s.r (tx s.d))=[]):MidR ds tx E K r S M G u v:=by
 obtain⟨⟨V,X,Y,y,I,J,z,N,O,U⟩,-⟩:=h;rw[F]at z;obtain rfl:=zDk z;obtain rfl:=zIy N;obtain rfl:I=[]:=by simpa using O
 injection U with b1 b2
 rw[b1,b2];exact J
theorem zMo {L:af Mem}{u:af ab}{O:af ArrM}(Z:p.toList.isEmpty=al)(I:L.map Mem.k=[mk2 p rd sxCR])(N:IsIds2 (zU soundA L) u)(v:O.map ArrM.toArr=u.map (buildA (zU soundA L))):
  ∃ o,O=[o]/\o.i=sxI/\o.t=1/\o.e=1/\o.n=1/\o.l=[sxX]:=by
 obtain⟨m,rfl⟩:∃ m,L=[m]:=by
  cases L with
  | nil=>simp at I
  | cons m t=>cases t with
   | nil=>exact⟨m,rfl⟩
   | cons m' t=>simp at I
 have y:m.k=mk2 p rd sxCR:=by simpa using I
 have U:m.p=p:=aw Mem.p y;have k2:m.i=sxI:=aw Mem.i y;have V:m.s=1:=aw Mem.s y;have X:m.t=1:=aw Mem.t y;have k5:m.e=1:=aw Mem.e y;have Y:m.l=[sxX]:=(aw Mem.l y).trans sx_x;have hs:soundA m=true:=by
  unfold soundA soundB;rw[U,V,X,Y,Z];decide
 have hb:zU soundA [m]=λx=>if x=(sxI,1)then ae m else none:=by
  show zAr soundA (λ_=>B) m=_
  rw[zCW hs (λo h=>by cases h),k2,V]
 rw[hb]at N v;have z:u=[sxI]:=N.unique ⟨by unfold AscS;decide,λx=>⟨λh=>by
  obtain rfl:x=sxI:=by simpa using h
  exact⟨1,by rw[bd rfl];rfl⟩,λ⟨s,h⟩=>by
  split at h
  .rename_i e;simp at e;simp[e.1]
  .cases h⟩⟩
 rw[z]at v;have F:(λx:ab×ag=>if x=(sxI,1)then ae m else B) (sxI,1)=ae m:=bd rfl;obtain⟨b,J⟩:∃ b:ab×ag->aq Mem,b=λx=>if x=(sxI,1)then ae m else none:=⟨_,rfl⟩
 rw[<-J]at v F;have hl:zAS b sxI=1:=by unfold zAS;simp[dt,F]
 have hf:zr b sxI=m:=by unfold zr;rw[hl,F];rfl
 have hB:buildA b sxI=⟨sxI,[p],1,1,1,[sxX]⟩:=by
  unfold buildA;rw[hf,X,k5,Y];simp[pathAt,F,U,dt]
 simp only[ci,cy,hB]at v;cases O with
 | nil=>simp at v
 | cons o t=>
  cases t with
  | cons o' t=>simp at v
  | nil=>
   have A:o.toArr=⟨sxI,[p],1,1,1,[sxX]⟩:=(by simpa using v);exact⟨o,rfl,aw Arr.i A,aw Arr.t A,aw Arr.e A,aw Arr.n A,aw Arr.l A⟩
theorem zLJ (U:p.toList.isEmpty=al)(h:MidR ds tx E K r S M G M3 G2)(V:S.filterMap (λs=>ofK 2 mk2 s.o s.r (tx s.d))=[mk2 p rd sxCR])(X:S.filterMap (λs=>ofK 3 mk3 s.o s.r (tx s.d))=[]):
  (M3,G2)=(if (G.any λy=>decide (y=(mdK,sxI)))=ao then (wantS tx S M r (S:Q),G++[(mdK,sxI)])else (zAA (wantS tx S M r (S:Q)) (sxW r),G++[(mdK,sxI)])):=by
 obtain⟨L2,z,O2,Y,L3,A,F,Z,o2,u,I,i3,a3⟩:=h;rw[V]at F;obtain⟨o,rfl,J,q2,q3,q4,q5⟩:=zMo U F Z o2;rw[X]at I;obtain rfl:=zDk I;obtain rfl:=zLd i3;have hv:mdOf o.i o.l r=sxW r:=by rw[J,q5];rfl
 have ha:arrAll ds E r (wantS tx S M r (S:Q),G) [o] [o].length=zAG ds E r (wantS tx S M r (S:Q),G) o:=rfl;rw[ha]at u;unfold zAG at u;have v:∀ N O,mustB o.t o.e o.n N O=true:=λN O=>by rw[q2,q3,q4];unfold mustB;simp
 rw[bd (v _ _),hv,J]at u;have:M3=Y:=by rw[a3];rfl
 rw[this];exact u
end
structure SxD (d0:Dev)(tx:Dev->ab):Prop where
 h0:d0.orig=sxA
 hk:d0.kind=2
 ht:tx d0=sxT
 hp:d0.parent=0
 hi:d0.index=1
structure SxP (d1:Dev)(tx:Dev->ab):Prop where
 g0:d1.orig=sxB
 gt:tx d1=sxR
 gp:d1.parent=1
 gi:d1.index=2
theorem zPt (D:SxD h tx)(r:ag):pwL sxPA h (tx h) r=[sxV r]:=by
 have ⟨u,v,y,A,F⟩:=D;unfold pwL;rw[y,sxPT];show (if sxCT.kind=5/\h.kind=2 then pwF sxPA h.orig r (sxCT.inner.map Ct.txt) (sxCT.inner:Q) else [])=_
 rw[bd ⟨rfl,v⟩,sx_r,u];have:(sxCT.inner:Q)=0+1:=rfl;rw[this,zFp];have o:partOk sxA 1=true:=by kernel_rfl
 have z:partT sxA 1=sxB:=by kernel_rfl
 simp[pwF,zAb,o,z,sxV]
theorem zQe {v:Dev}(D:SxD v tx)(u:k≠5)(y:ab->ag->Ct->Mem)(p:ab)(rd:ag):ofK k y p rd (tx v)=none:=by
 have ⟨A,F,z,I,J⟩:=D;refine zIi (λc o=>?_);rw[z,sxPT]at o;injection o with o
 subst o;exact λh=>u h.symm
theorem sx_f {v:Dev}(D:SxD v tx)(h:k≠5)(u:ab->ag->Ct->Mem)(y:ag)(p:ab)(rd:ag)(t:af Src):(⟨y,v,p,rd⟩::t:af Src).filterMap (λs=>ofK k u s.o s.r (tx s.d))=t.filterMap (λs=>ofK k u s.o s.r (tx s.d)):=by
 have ⟨z,A,F,I,J⟩:=D;rw[cx,zQe D h u p rd]
theorem zOc (D:SxD h tx)(M:af Vir)(r:ag):wantS tx [⟨0,h,sxPA,0⟩] M r [(⟨0,h,sxPA,0⟩:Src)].length=zAA M (sxV r):=by
 have ⟨o,u,v,y,z⟩:=D;show zg M (pwL sxPA h (tx h) r)=_
 rw[zPt D];rfl
theorem zIM (D:SxD u tx){v:af Vir}{y z:af (ab×ab)}(h:NextR ds tx [] [] C r [⟨0,u,sxPA,0⟩] M y A v z):v=zAA M (sxV r)/\z=y:=by
 have ⟨N,O,U,V,X⟩:=D;have F:[(⟨0,u,sxPA,0⟩:Src)].filterMap (λs=>ofK 4 mk4 s.o s.r (tx s.d))=[]:=by rw[sx_f D (by decide)];rfl
 obtain⟨I,J⟩:=zO8 (zIk h F) (by rw[sx_f D (by decide)];rfl) (by rw[sx_f D (by decide)];rfl);exact⟨by rw[I,zOc D],J⟩
theorem zQf: inW [sxV 1] sxPA sxB=true:=by unfold inW sxV;simp
theorem zNx: zAA [] (sxV 1)=[sxV 1]:=by unfold zAA inW;simp
theorem zNw (r:ag):zAA [sxV 1] (sxV r)=[sxV 1]:=by unfold zAA;rw[bd];exact zQf
theorem zMX (r:ag):zAA [sxV 1,sxW 2] (sxV r)=[sxV 1,sxW 2]:=by unfold zAA;rw[bd];unfold inW sxV;simp
theorem zOf: zAA [sxV 1] (sxW 2)=[sxV 1,sxW 2]:=by
 unfold zAA;rw[bo];·rfl
 .unfold inW sxV sxW;simp[sxPA]
theorem zKW {a b:Src}{l:af Src}(h:l.Perm [a,b])(A:l.Pairwise λx y=>x.at_<=y.at_)(F:a.at_<b.at_):l=[a,b]:=by
 have I:=h.length_eq
 match l,I with
 | [x,y],_=>
  have u:x∈[a,b]:=h.mem_iff.1 (by simp);have o:y∈[a,b]:=h.mem_iff.1 (by simp);have v:a∈[x,y]:=h.mem_iff.2 (by simp);have z:b∈[x,y]:=h.mem_iff.2 (by simp);have J:x.at_<=y.at_:=by simpa using A
  simp at u o v z;rcases u with rfl|rfl
  .rcases o with rfl|rfl
   .rcases z with rfl|rfl<;>omega
   .rfl
  .rcases o with rfl|rfl
   .omega
   .rcases v with rfl|rfl<;>omega
theorem zOe (h:M.find? (λv=>decide ((v.q,v.o)=(plc ds s.d.parent,s.d.orig)))=B):againB ds tx M r s=false:=by
 unfold againB;rw[h]
theorem zNy (D:SxD h tx)(ds:af Dev)(u:∀ d∈ds,d.index≠0)(M:af Vir)(y:∀ v∈M,v.o≠sxA)(r:ag)(z:ag)(p:ab)(rd:ag):againB ds tx M r ⟨z,h,p,rd⟩=false:=by
 have ⟨A,I,J,N,O⟩:=D;apply zOe;rw[dp];intro v F;have:=y v F;rw[A];simp;exact λ_=>this
theorem zOg {o:Dev}(D:SxD o tx){F:af Src}{u:af Vir}{I:af (ab×ab)}(J:M=[]/\r=1\/M=[sxV 1])(h:NextR [o] tx [] [] [⟨0,o,sxPA,0⟩] r [⟨0,o,sxPA,0⟩] M [] F u I):F=[⟨0,o,sxPA,0⟩]/\u=[sxV 1]/\I=[]:=by
 have ⟨U,V,X,Y,N⟩:=D;obtain⟨v,O⟩:=zIM D h;have y:u=[sxV 1]:=by
  rcases J with⟨rfl,rfl⟩|rfl
  .rw[v,zNx]
  .rw[v,zNw]
 refine⟨?_,y,O⟩;have z:=h.2.1;have A:=zNy D [o] (by simp[N]) u (by rw[y];unfold sxV sxB sxA;simp) r 0 sxPA 0;have:moreS [o] tx u r [⟨0,o,sxPA,0⟩] [(⟨0,o,sxPA,0⟩:Src)].length=[]:=by
  unfold moreS;simp[A]
 rw[this,dj]at z;exact List.perm_singleton.1 z
theorem zOd {o:Dev}(D:SxD h tx)(P:SxP o tx):plc [h,o] o.parent=sxPA:=by
 have ⟨z,J,N,A,v⟩:=D;have ⟨O,U,F,I⟩:=P;have y:look [h,o] 1=ae h:=by unfold look;simp[v]
 have u:look [h,o] 0=none:=zv.2 (by simp[v,I]);unfold plc origin chain;rw[F,y];show pathOf ((chainK [h,o] (1+1) 1).map ca).reverse=sxPA
 unfold chainK;rw[y];show pathOf ((h::chainK [h,o] (0+1) h.parent).map ca).reverse=sxPA
 unfold chainK;rw[A,u];show pathOf [h.orig]=sxPA
 rw[z];kernel_rfl
theorem zMZ (D:SxD u tx)(P:SxP h tx)(M:af Vir)(r:ag):againB [u,h] tx (sxV 1::M) r ⟨1,h,sxPB,0⟩=(1==r):=by
 have ⟨A,F,I,J,N⟩:=D;have ⟨y,z,O,U⟩:=P;have e:plc [u,h] (Src.d ⟨1,h,sxPB,0⟩).parent=sxPA:=zOd D P;unfold againB;have:(sxV 1::M).find? (λv=>decide ((v.q,v.o)=(plc [u,h] (Src.d ⟨1,h,sxPB,0⟩).parent,(Src.d ⟨1,h,sxPB,0⟩).orig)))=ae (sxV 1):=by
  rw[dm];rw[e];show decide ((sxPA,sxB)=(sxPA,h.orig))=ao
  rw[y];simp
 rw[this];show ((1==r)&&(sxR.toList==(tx h).toList))=_
 rw[z];simp
theorem zKX {y:Dev}(D:SxD y tx)(P:SxP u tx)(F:∀ v∈M,v.o≠sxA):moreS [y,u] tx (sxV 1::M) r [⟨0,y,sxPA,0⟩,⟨1,u,sxPB,0⟩] [(⟨0,y,sxPA,0⟩:Src),⟨1,u,sxPB,0⟩].length=if r=1 then [⟨1,u,sxPB,r⟩]else []:=by
 have ⟨O,U,V,X,I⟩:=D;have ⟨Y,Z,gp,J⟩:=P;have N:=zNy D [y,u] (by simp[I,J]) (sxV 1::M) (by
  intro v z;rcases List.mem_cons.1 z with rfl|z
  .show sxB≠sxA
   decide
  .exact F v z) r 0 sxPA 0
 have a1:=zMZ D P M r;unfold moreS;show (([(⟨0,y,sxPA,0⟩:Src),⟨1,u,sxPB,0⟩]).filter _).map _=_
 rw[dl (by rw[N];simp)];by_cases A:r=1
 .subst A;rw[List.filter_cons_of_pos (by rw[a1];rfl),bd rfl];rfl
 .rw[dl (by rw[a1];simpa using λh=>A h.symm),bo A];rfl
theorem zMY {y:Dev}(D:SxD u tx)(P:SxP y tx){z:af Src}{A:af Vir}{F:af (ab×ab)}(h:NextR [u,y] tx [] [] [⟨0,u,sxPA,0⟩,⟨1,y,sxPB,0⟩] 1 [⟨0,u,sxPA,0⟩] [] [] z A F):z=[⟨0,u,sxPA,0⟩,⟨1,y,sxPB,1⟩]/\A=[sxV 1]/\F=[]:=by
 have ⟨J,N,O,U,V⟩:=D;have ⟨X,Y,Z,gi⟩:=P;obtain⟨o,I⟩:=zIM D h;rw[zNx]at o;refine⟨?_,o,I⟩;have v:=h.2.1;rw[o,zKX D P (by simp),bd rfl]at v;exact zKW v h.2.2 (by show (0:ag)<1;omega)
theorem zIN {F A:Dev}(D:SxD F tx)(P:SxP A tx){S':af Src}{Z:af Vir}{O G':af (ab×ab)}(hr:(r=2/\M=[sxV 1]/\O=[])\/(3<=r/\M=[sxV 1,sxW 2]/\(O.any λy=>decide (y=(mdK,sxI)))=ao))(h:NextR [F,A] tx [] [] [⟨0,F,sxPA,0⟩,⟨1,A,sxPB,0⟩] r [⟨0,F,sxPA,0⟩,⟨1,A,sxPB,1⟩] M O S' Z G'):
  S'=[⟨0,F,sxPA,0⟩,⟨1,A,sxPB,1⟩]/\Z=[sxV 1,sxW 2]/\G'=O++[(mdK,sxI)]:=by
 have ⟨h0,hk,ht,hp,hi⟩:=D;have ⟨g0,gt,gp,gi⟩:=P;have I:∀ (k:ag) (J:ab->ag->Ct->Mem),[(⟨0,F,sxPA,0⟩:Src),⟨1,A,sxPB,1⟩].filterMap (λs=>ofK k J s.o s.r (tx s.d))=if k=2 then [J sxPB 1 sxCR]else if k=5 then [J sxPA 0 sxCT]else []:=by
  intro k J;have e0:ofK k J sxPA 0 (tx F)=if k=5 then ae (J sxPA 0 sxCT)else none:=by
   unfold ofK;rw[ht,sxPT];show (if (5:ag)=k then ae (J sxPA 0 sxCT)else B)=_
   by_cases u:k=5;·rw[bd u.symm,bd u]
   .rw[bo (λh=>u h.symm),bo u]
  have e1:ofK k J sxPB 1 (tx A)=if k=2 then ae (J sxPB 1 sxCR)else none:=by
   unfold ofK;rw[gt,sxPR];show (if (2:ag)=k then ae (J sxPB 1 sxCR)else B)=_
   by_cases u:k=2;·rw[bd u.symm,bd u]
   .rw[bo (λh=>u h.symm),bo u]
  rw[cx,e0,cx,e1];by_cases U:k=2;·subst U;rfl
  .by_cases u:k=5;·subst u;rfl
   .simp[U,u]
 have V:=zIk h (by rw[I];rfl);have z:=zLJ (p:=sxPB) (rd:=1) (by simp[ByteArray.toList_eq,sxPB]) V (by rw[I];rfl) (by rw[I];rfl);have hw:wantS tx [(⟨0,F,sxPA,0⟩:Src),⟨1,A,sxPB,1⟩] M r [(⟨0,F,sxPA,0⟩:Src),⟨1,A,sxPB,1⟩].length=zAA M (sxV r):=by
  show zg (zg M (pwL sxPA F (tx F) r)) (pwL sxPB A (tx A) r)=_
  rw[zPt D,zN2 (s:=tx A) (λc Y=>by
   rw[gt,sxPR]at Y;injection Y with Y
   subst Y;decide)]
  rfl
 rw[hw]at z;have N:Z=[sxV 1,sxW 2]/\G'=O++[(mdK,sxI)]:=by
  rcases hr with⟨rfl,rfl,rfl⟩|⟨-,rfl,hg⟩
  .rw[bo (by simp),zNw,zOf]at z;injection z with b1 b2
   exact⟨b1,b2⟩
  .rw[bd hg,zMX]at z;injection z with b1 b2
   exact⟨b1,b2⟩
 refine⟨?_,N.1,N.2⟩;have X:=h.2.1;have a2:r≠1:=by rcases hr with⟨h,_⟩|⟨h,_⟩<;>omega
 rw[N.1,zKX D P (by intro v hv;simp at hv;subst hv;show sxM≠sxA;decide),bo a2,dj]at X;exact zKW X h.2.2 (by show (0:ag)<1;omega)
def D0 (aa:aq ar)(an ac:Q):Dev:=⟨1,0,sxA,sxA,zX,(),(),2,1,aa,an,ac⟩
def D1 (aa:aq ar)(an ac:Q):Dev:=⟨2,1,sxB,sxB,zX,(),(),2,1048576,aa,an,ac⟩
def sxL0 : Rec:={ dd with path:=sxPA,index:=1 }
def sxL1 : Rec:={ dd with path:=sxPB,index:=2 }
def ct1 : ag->ab:=updC (λ_=>()) 1 sxT
def ct2 : ag->ab:=updC ct1 2 sxR
section
variable (a0 a1:aq ar)(n0 c0 n1 c1:Q)
theorem vir0: virB [D0 a0 n0 c0] 1=false:=by kernel_rfl
theorem zQc: virB [D0 a0 n0 c0,D1 a1 n1 c1] 1=false:=by kernel_rfl
theorem vir1: virB [D0 a0 n0 c0,D1 a1 n1 c1] 2=true:=by kernel_rfl
theorem zQj: plc [D0 a0 n0 c0] 1=sxPA:=by kernel_rfl
theorem zQi: plc [D0 a0 n0 c0,D1 a1 n1 c1] 1=sxPA:=by kernel_rfl
theorem zQh: plc [D0 a0 n0 c0,D1 a1 n1 c1] 2=sxPB:=by kernel_rfl
theorem zPZ: cntL [D0 a0 n0 c0] [sxL0] 0 [D0 a0 n0 c0]=[⟨0,D0 a0 n0 c0,sxPA,0⟩]:=by
 have h:cntB [D0 a0 n0 c0] [sxL0] 1=true:=by kernel_rfl
 have e:=zBv [D0 a0 n0 c0] [sxL0] [] 0 (D0 a0 n0 c0);rw[show (D0 a0 n0 c0).index=1 from rfl,h,zQj]at e;exact e
theorem zPY: cntL [D0 a0 n0 c0,D1 a1 n1 c1] [sxL0,sxL1] 0 [D0 a0 n0 c0,D1 a1 n1 c1]=[⟨0,D0 a0 n0 c0,sxPA,0⟩,⟨1,D1 a1 n1 c1,sxPB,0⟩]:=by
 have u:cntB [D0 a0 n0 c0,D1 a1 n1 c1] [sxL0,sxL1] 1=true:=by kernel_rfl
 have v:cntB [D0 a0 n0 c0,D1 a1 n1 c1] [sxL0,sxL1] 2=true:=by kernel_rfl
 have o:=zBv [D0 a0 n0 c0,D1 a1 n1 c1] [sxL0,sxL1] [] 0 (D0 a0 n0 c0);rw[show (D0 a0 n0 c0).index=1 from rfl,u,zQi]at o;have h:=zBv [D0 a0 n0 c0,D1 a1 n1 c1] [sxL0,sxL1] [D0 a0 n0 c0] 0 (D1 a1 n1 c1);rw[show (D1 a1 n1 c1).index=2 from rfl,v,zQh]at h;have y:([D0 a0 n0 c0]:af Dev)=[]++[D0 a0 n0 c0]:=rfl;rw[y,o]at h;exact h
theorem src0: (cntL [D0 a0 n0 c0] [sxL0] 0 [D0 a0 n0 c0]).filter (λs=>!virB [D0 a0 n0 c0] s.d.index)=[⟨0,D0 a0 n0 c0,sxPA,0⟩]:=by
 rw[zPZ];have h:virB [D0 a0 n0 c0] (D0 a0 n0 c0).index=false:=vir0 a0 n0 c0;simp[h]
theorem src1: (cntL [D0 a0 n0 c0,D1 a1 n1 c1] [sxL0,sxL1] 0 [D0 a0 n0 c0,D1 a1 n1 c1]).filter (λs=>!virB [D0 a0 n0 c0,D1 a1 n1 c1] s.d.index)=[⟨0,D0 a0 n0 c0,sxPA,0⟩]:=by
 rw[zPY];have h:virB [D0 a0 n0 c0,D1 a1 n1 c1] (D0 a0 n0 c0).index=false:=zQc a0 a1 n0 c0 n1 c1;have o:virB [D0 a0 n0 c0,D1 a1 n1 c1] (D1 a1 n1 c1).index=true:=vir1 a0 a1 n0 c0 n1 c1;simp[h,o]
end
def sxI0 (d:Dev)(r:ag)(S:af Src)(M:af Vir)(G:af (ab×ab)):Prop:=
 S=[⟨0,d,sxPA,0⟩]/\G=[]/\((r=1/\M=[])\/M=[sxV 1])
def sxI1 (d e:Dev)(r:ag)(S:af Src)(M:af Vir)(G:af (ab×ab)):Prop:=
 (r=1/\S=[⟨0,d,sxPA,0⟩]/\M=[]/\G=[])\/
 (r=2/\S=[⟨0,d,sxPA,0⟩,⟨1,e,sxPB,1⟩]/\M=[sxV 1]/\G=[])\/
 (r=3/\S=[⟨0,d,sxPA,0⟩,⟨1,e,sxPB,1⟩]/\M=[sxV 1,sxW 2]/\G=[(mdK,sxI)])
section
variable {d e:Dev}{tx:Dev->ab}{r:ag}{S S':af Src}{M M':af Vir}{G G':af (ab×ab)}
theorem zGZ (D:SxD d tx)(h:sxI0 d r S M G)(o:NextR [d] tx [] [] [⟨0,d,sxPA,0⟩] r S M G S' M' G'):S'=[⟨0,d,sxPA,0⟩]/\M'=[sxV 1]/\G'=[]:=by
 obtain⟨rfl,rfl,u⟩:=h;exact zOg D (u.imp (λh=>⟨h.2,h.1⟩) id) o
theorem zGY (D:SxD d tx)(P:SxP e tx)(h:sxI1 d e r S M G)(y:NextR [d,e] tx [] [] [⟨0,d,sxPA,0⟩,⟨1,e,sxPB,0⟩] r S M G S' M' G'):((M:Q)<(M':Q)->sxI1 d e (r+1) S' M' G')/\(¬ (M:Q)<(M':Q)->M'=[sxV 1,sxW 2]):=by
 rcases h with⟨rfl,rfl,rfl,rfl⟩|⟨rfl,rfl,rfl,rfl⟩|⟨rfl,rfl,rfl,rfl⟩
 .obtain⟨u,o,v⟩:=zMY D P y;exact⟨λ_=>.inr (.inl ⟨rfl,u,o,v⟩),λh=>bn (by rw[o];simp) h⟩
 .obtain⟨u,o,v⟩:=zIN D P (.inl ⟨rfl,rfl,rfl⟩) y;exact⟨λ_=>.inr (.inr ⟨rfl,u,o,v⟩),λ_=>o⟩
 .obtain⟨u,o,v⟩:=zIN D P (.inr ⟨by omega,rfl,by simp⟩) y;exact⟨λh=>bn h (by rw[o];simp),λ_=>o⟩
theorem zMf (h:s∈[(⟨0,d,sxPA,0⟩:Src),⟨1,e,sxPB,1⟩]):(s.d=d\/s.d=e)/\s.o.size<=1000000:=by
 rcases List.mem_cons.1 h with rfl|h
 .exact⟨.inl rfl,by show sxPA.size<=_;decide⟩
 .obtain rfl:s=⟨1,e,sxPB,1⟩:=by simpa using h
  exact⟨.inr rfl,by show sxPB.size<=_;decide⟩
theorem zOi (h:sxI0 d r S M G):SmR [d] r S M G:=by
 obtain⟨rfl,rfl,o⟩:=h;refine⟨λs u=>?_,by simp,?_,by simp⟩
 .obtain rfl:s=⟨0,d,sxPA,0⟩:=by simpa using u
  exact⟨by simp,by show sxPA.size<=_;decide⟩
 .rcases o with⟨_,rfl⟩|rfl<;>simp
theorem zOh (h:sxI1 d e r S M G):SmR [d,e] r S M G:=by
 rcases h with⟨rfl,rfl,rfl,rfl⟩|⟨rfl,rfl,rfl,rfl⟩|⟨rfl,rfl,rfl,rfl⟩
 all_goals
  refine⟨λs o=>?_,by simp,by simp,by simp⟩;have h:=zMf (d:=d) (e:=e) (s:=s) (by first|exact o|(simp at o;simp[o]));exact⟨by simpa using h.1,h.2⟩
end
theorem zD3 {x:Dev}(h:strip x=strip d):x={ d with aa:=x.aa,an:=x.an,ac:=x.ac }:=by
 obtain⟨z,A,F,I,J,N,O,U,V,X,o,u⟩:=x;obtain⟨Y,Z,d2,d3,d4,d5,d6,d7,d8,d9,v,y⟩:=d;simp only[strip,Dev.mk.injEq]at h ⊢;simp[h]
theorem zIO (h:ds.map strip=[strip d]):∃ aa an ac,ds=[{ d with aa:=aa,an:=an,ac:=ac }]:=by
 have o:=aw cg h;rw[bw]at o
 match ds,o with
 | [x],_=>
  simp only[ci,cy]at h;injection h with h _
  exact⟨_,_,_,by rw[<-zD3 h]⟩
theorem zMc {e:Dev}(h:ds.map strip=[strip d,strip e]):∃ aa an ac u v z,ds=[{ d with aa:=aa,an:=an,ac:=ac },{ e with aa:=u,an:=v,ac:=z }]:=by
 have o:=aw cg h;rw[bw]at o
 match ds,o with
 | [x,y],_=>
  simp only[ci,cy]at h;injection h with h1 h2
  injection h2 with h2 _
  exact⟨_,_,_,_,_,_,by rw[<-zD3 h1,<-zD3 h2]⟩
theorem zFa: InU sxT:=.inr (.inr ⟨taC ⟨#[116]⟩ [rX1],bi (i:=29) rfl,zAP.1 (by kernel_rfl)⟩)
theorem zHQ: InU sxR:=.inr (.inr ⟨rX1,bi (i:=28) rfl,zAP.1 (by kernel_rfl)⟩)
theorem zGX: NoTab sxR:=λc h=>by rw[sxPR]at h;cases h;decide
theorem zFb: sxA∈rootN:=bi (i:=10) rfl
theorem zKZ: sxB∈parN sxA:=bi (i:=0) (by kernel_rfl)
theorem zKY: sxPA=pathOf [sxA]:=zAP.1 (by kernel_rfl)
theorem zNv (w:au):∀ r∈[sxL0,sxL1],RecOk w r:=λr h=>by
 rcases List.mem_cons.1 h with rfl|h
 .exact⟨cp w,bq w⟩
 .obtain rfl:r=sxL1:=by simpa using h
  exact⟨cp w,bq w⟩
theorem zPs (o:aq ar)(u y:Q):MustOk [D0 o u y] [sxV 1]:=by
 refine⟨λv z=>?_,by unfold DistP;simp,λv z _=>?_⟩
 .obtain rfl:v=sxV 1:=by simpa using z
  exact⟨zHQ,.inr ⟨sxA,zFb,zKY,zKZ,zGX⟩,by kernel_rfl⟩
 .obtain rfl:v=sxV 1:=by simpa using z
  refine⟨D0 o u y,by simp,rfl,zKY,λh=>?_⟩;rw[show (D0 o u y).index=1 from rfl,vir0]at h;cases h
def sxQ (j:Q)(L:af Dev)(ops:af OpA):Prop:=(j=0->L=[D0 B 0 0]/\ops=[])/\(j=1->∃ aa,ops=[⟨1,sxPA,opG sxB 1048576 sxR aa,(),(),sxR⟩])
theorem zMa (o:aq ar)(u v:Q)(ct:ag->ab):sxQ 0 (remF [sxV 1] [D0 o u v] (revR [D0 o u v])).1 (setF [sxV 1] (remF [sxV 1] [D0 o u v] (revR [D0 o u v])).1 ct (remF [sxV 1] [D0 o u v] (revR [D0 o u v])).2 (remF [sxV 1] [D0 o u v] (revR [D0 o u v])).1.length).2:=by
 have h:=zGk (M:=[sxV 1]) (ds:=[D0 o u v]) (λd y h=>by
  obtain rfl:d=D0 o u v:=by simpa using y
  rw[show (D0 o u v).index=1 from rfl,vir0]at h;cases h) (pre:=revR [D0 o u v]) (λx A=>zB4 A)
 rw[h];have F:=zGh (M:=[sxV 1]) (L:=[D0 o u v].map strip) (ct:=ct) (λd y h=>by
  obtain rfl:d=D0 B 0 0:=by simpa [strip,D0]using y
  have z:virB [D0 B 0 0] 1=true:=h;rw[vir0]at z;cases z) [] ([D0 o u v].map strip).length
 dsimp only;rw[F];exact⟨λ_=>⟨rfl,rfl⟩,λh=>by cases h⟩
theorem zMb {v:Vir}{y:af OpA}{J:af Dev}{A:ag->ab}{u:af OpA}(N:[sxV 1][j]?=ae v)(h:sxQ j L y)(U:zBy L ct y v J A u):sxQ (j+1) J u:=by
 have F:j=0:=by have:=(List.getElem?_eq_some_iff.1 N).1;simp at this;exact this
 subst F;obtain rfl:sxV 1=v:=by simpa using N
 obtain⟨rfl,rfl⟩:=h.1 rfl;refine⟨(λh=>by cases h),λ_=>?_⟩;have I:[D0 B 0 0].find? (atP [D0 B 0 0] ((sxV 1).q++(⟨#[47]⟩:ab)++(sxV 1).o))=none:=by kernel_rfl
 rcases U with⟨⟨Z,z⟩,_⟩|⟨_,k,V,p,X,hu,hp,_,_,rfl⟩
 .rw[I]at z;cases z
 .obtain rfl:k=0:=by
   cases k with
   | zero=>rfl
   | succ k=>
    have O:=X.2 0 (by omega);have Y:usedF [D0 B 0 0] (1048576+((0:Q):ag))=false:=(by kernel_rfl);rw[Y]at O;cases O
  exact⟨V,rfl⟩
theorem zPC (w:au)(hE:Env w):be az 14 #[] w λe w'=>e=.returned (.bool ao)/\Fr No w w':=by
 have h9:=hE.sz;have HE:=zh hE;clear hE;go_enter Tryz.func14,Tryz.ntmps14;go_wp2_with fail;apply (zQH w).mono;rintro e w1 ⟨rfl,Z⟩;have e3:ai (KA w1 (w:Q) ((w:Q)+1) [] (λ_=>()) 0 0):=⟨B,0,[],B,0,0,by rw[Z];exact KSt.new w _,rfl,(λd hd=>by simp at hd),by omega⟩
 have k4:ai (Fr No w w1):=by unfold ai;rw[Z];exact(ay _ _).alloc _
 have s1:(w1:Q)=(w:Q)+1:=by rw[Z];simp
 obtain⟨o,d3⟩:=ε (w:Q)
 rw[<-d3]at e3 ⊢;have h8:8<o:=by omega
 have p0:o+1<=(w1:Q):=by omega
 have k5:=zh d3;clear Z d3 s1;have e4:=zLT sxA sxT 1 w1 zFa;go_wp2_with fail;apply e4.mono;rintro e w2 ⟨⟨aa,ac,rfl,e5,_⟩,a2⟩;have e6:=zh (k4.step a2 zi);have s2:=a2.size;have A:=zLU o (o+1) 0 [] (λ_=>()) 0 0 () () () sxT ⟨0,0,(),sxA,zX,(),(),2,1,aa,(cAtt sxT).length,ac⟩ w2 (e3.no (by omega) a2) (UOk.nil _ _) (HE.no e6.out) h8 (by omega) (by omega) (by omega) e5 rfl ⟨rfl,rfl,rfl,by show (1:ag)<=1;decide,by show (1:ag)<=2000000;decide⟩ (.inl ⟨rfl,rfl,rfl⟩) (.inl ⟨rfl,zFb⟩) zFa (λh=>bn rfl h) (by simp);clear e4 e5 a2;unfold ocs at A;go_wp2_with fail;apply A.mono;rintro e N ⟨rfl,e7,e8,d4,_⟩;have k6:ai (KA N o (o+1) [D0 B 0 0] ct1 1 1):=e7;have e9:ai (UOk [D0 B 0 0] ct1 1):=e8;have s3:=bv d4;have k7:ai (Fr (From o) w N):=(e6.mono zn).step (EvF.from d4 (by omega) (by omega)) zi;clear A e7 e8 d4;obtain⟨W4,a3,f4,b4⟩:=zy N (am sxL0.vals 76);unfold sxL0 bj dd sxPA at a3;simp only[dr]at a3;go_upto_region 8 with(fail)
 rw[<-a3];clear a3;have O:W4.ownsRow (o+1) 76 12 (ah (ae ⟨N,0,B⟩) 1 1) [sxL0].length (rflat [sxL0]):=⟨rfl,.inr ⟨(N:Q),1,_,rfl,by omega,b4,bx _,by decide,rfl,rfl⟩⟩
 have k8:=zh O;have k9:ai (Fr (From o) w W4):=k7.step f4 zn;have a4:ai (KA W4 o (o+1) [D0 B 0 0] ct1 1 1):=k6.no (by omega) f4;have g0:ai (∀ W,Fr No W4 W->Recs W (ae ⟨N,0,B⟩) 1 [sxL0]):=λW hW=>by
  obtain⟨x,y,hv,hr,_⟩:=Recs.of_own (zG O hW (λ_ _=>id)) (λr hr=>zNv W r (by simp at hr;simp[hr]));cases hv;exact hr
 have F:=zEQ o (o+1) 1 [D0 B 0 0] ct1 1 W4 a4.out (by simp);have s4:=zC b4;clear O f4 b4;go_wp2_with fail;apply F.mono;rintro e w5 ⟨⟨a5,c5,p1,rfl,g4,_,g5,b6⟩,a6⟩;obtain⟨x5,n5,y5,rfl⟩:=zIO (d:=D0 B 0 0) b6;have g6:ai (Fr (From o) w w5):=k9.step a6 zn;have z:=zH9 a5 (ae ⟨N,0,B⟩) B B c5 1 0 0 (W4:Q) 0 [D0 x5 n5 y5] [sxL0] (λd=>ct1 d.index) [] [] w5 g4 (by simp) (g0.out w5 a6) (HE.from h8 g6.out) (bq _) (bq _) (by simp) (by simp) (g5.txs (λd hd=>by
  obtain rfl:d=D0 x5 n5 y5:=List.mem_singleton.1 hd;exact zFa)) (sxI0 (D0 x5 n5 y5))
  (λr S M l0 S' M' G' h1 h2 h3=>by
   rw[zPZ]at h2;obtain⟨g1,g2,g3⟩:=zGZ ⟨rfl,rfl,rfl,rfl,rfl⟩ h1 h2;exact⟨g1,g3,.inr g2⟩) (λr S M l0 h=>zOi h) ⟨src0 x5 n5 y5,rfl,.inl ⟨rfl,rfl⟩⟩
 have b7:=zh a6;clear F g4 g5 b6 a6;go_wp2_with fail;apply z.mono;rintro e w6 ⟨⟨ma,mc,r6,S6,M6,G6,p2,p3,p4,rfl,g7,_,g8,d5,_⟩,a8⟩;rw[zPZ]at d5;obtain⟨-,rfl,-⟩:=zGZ ⟨rfl,rfl,rfl,rfl,rfl⟩ g8 d5;have l1:=zh g7;have b8:=zh (b7.step a8 zi);have l2:ai (Fr (From o) w w6):=g6.step a8 zn;have s6:=a8.size;have s5:=b7.size;clear z g7 g8 d5 a8;have F:=zEQ o (o+1) 1 [D0 B 0 0] ct1 1 w6 (a4.no (by omega) b8.out) (by simp);go_wp2_with fail;apply F.mono;rintro e w7 ⟨⟨a7,c7,p5,rfl,g9,b9,h0,d0⟩,U⟩;obtain⟨x7,n7,y7,rfl⟩:=zIO (d:=D0 B 0 0) d0;have h4:ai (Fr (From o) w w7):=l2.step U zn;have h5:=zh (b8.step U zi);have h6:=zh (l1.no U (λ_=>id));have s7:=U.size;have V:=zKO (w6:Q) a7 c7 [D0 x7 n7 y7] ct1 [sxV 1] ma mc 1 w7 g9 e9 (zPs x7 n7 y7) (by decide) (HE.from h8 h4) b9 h0 h6 (by omega) sxQ (zMa x7 n7 y7 ct1) (λj v L ct l3 L' p6 n4 hj h hs=>zMb hj h hs);clear F g9 b9 h0 d0 U;go_wp2_with fail;apply V.mono;rintro e w8 ⟨⟨l3,av,cv,_,_,_,_,_,_,_,_,⟨_,_,hQ⟩,rfl,h7,i3⟩,X⟩;obtain⟨a9,rfl⟩:=hQ rfl;have i4:ai (Fr (From o) w w8):=h4.step X zn;have Y:=zh (h5.step X zi);obtain⟨i5,_⟩:=i3 _ (List.mem_singleton.2 rfl);obtain⟨g,p7,rfl,⟨o0,o1,o2,o3,o4,o5,o6,o7,o8,o9,b0,b1,d6,d7⟩⟩:=zP7 (j:=0) h7 rfl rfl;obtain⟨mb,n6,u,rfl,i6,⟨m0,m1,m2,m3⟩,p8⟩:=(h6.no X (λ_=>id)).elem (k:=0) (by simp);obtain rfl:u=sxV 1:=by simpa using i6.symm
 simp only[Nat.zero_mul,Nat.add_zero]at m0 m1 m2 m3 o0 o1 o2 o3 o4 o5 o6 o7 o8 o9 b0 b1 d6 d7;unfold sxV sxB at m1;dsimp only at m1;have l4:=zh i5;have s8:=X.size;unfold sxPA at o1;unfold opG at o2 o3 o4 o5 o6 o7 o8 o9 b0 b1;dsimp only at o2 o3 o4 o5 o6 o7 o8 o9 b0 b1 o0 o1 d6 d7;clear V h7 i3 X i6 m0 m2 m3 i5 hQ;go_upto_region 12 with(fail)
 clear m1;have eL:insAt [D0 B 0 0] (insK [D0 B 0 0] (addD (opG sxB 1048576 sxR a9) 1 1)) (strip (addD (opG sxB 1048576 sxR a9) 1 1))=[D0 B 0 0,D1 B 0 0]:=by kernel_rfl
 have A:=(zLU o (o+1) 1 [D0 B 0 0] ct1 1 1 sxPA () () sxR (opG sxB 1048576 sxR a9) w8 (a4.no (by omega) Y.out) e9.out (HE.from h8 i4.out) h8 (by omega) (by omega) (by omega) l4.out rfl ⟨rfl,rfl,rfl,by show (1:ag)<=1048576;decide,by show (1048576:ag)<=2000000;decide⟩ (.inr ⟨D0 B 0 0,by kernel_rfl,rfl⟩) (.inr ⟨D0 B 0 0,by simp,rfl,rfl,zFb,zKZ⟩) zHQ (λ_=>zGX) (λe he=>by
  obtain rfl:e=D0 B 0 0:=List.mem_singleton.1 he;exact⟨by show sxA≠sxB;decide,by show (1:ag)≠1048576;decide⟩)).mono (λe w' h=>(⟨h.1,by have:=h.2.1;rw[eL]at this;exact this,h.2.2.2.1⟩:e=.returned (.tuple #[aj ak 2,aj ak 0])/\KA w' o (o+1) [D0 B 0 0,D1 B 0 0] ct2 2 2/\EvF o (o+1) w8 w'))
 unfold sxPA opG ocs at A;dsimp only at A;clear eL;go_wp2_with fail;apply A.mono;rintro e w9 ⟨rfl,i7,b2⟩;have l5:=zh i7;have l6:ai (Fr (From o) w w9):=i4.step (EvF.from (tb:=o) b2 (by omega) (by omega)) zi;obtain⟨n8,i8⟩:=(a4.no (by omega) Y).blk;have l7:ai (w9.ownsRow (o+1) 76 12 (ah (ae ⟨N,0,B⟩) 1 1) [sxL0].length (rflat [sxL0])):=cq b2 (zG k8 Y (λ_ _=>id)) i8 (by decide) (by decide);have s9:=bv b2;clear A i7 b2 i8 o0 o1 o2 o3 o4 o5 o6 o7 o8 o9 b0 b1 d6 d7;have F:=zEQ o (o+1) 2 [D0 B 0 0,D1 B 0 0] ct2 2 w9 l5.out (by simp);go_wp2_with fail;apply F.mono;rintro e wA ⟨⟨aA,cA,p9,rfl,i9,_,j0,d1⟩,b3⟩;obtain⟨xA,nA,yA,zA,kA,uA,rfl⟩:=zMc (d:=D0 B 0 0) (e:=D1 B 0 0) d1;have d8:=zg2 i9 j0;have l8:ai (Fr (From o) w wA):=l6.step b3 zn;have l9:=zh (zG l7 b3 (λ_ _=>id));have sA:=b3.size;clear F i9 j0 d1 b3;obtain⟨i0,m4,m5,m6,m7⟩:=cn infoR;have m8:wA.ownsRow (o+1) 76 12 (ah (ae ⟨N,0,B⟩) 1 1) 1 (rflat [sxL0]):=l9.out;have r0:(N:Q)<(w9:Q):=by omega
 go_wp2_with (at_builtin;refine wpList_append_own_at _ rfl _ _ 43 rfl (o+1) 76 i0 (ba #[bc,aj ak 0,ah B 0 0,ah B 0 0,ah B 0 0,ah B 0 0,ah B 0 0,bc,aj ak 0,bc,bc,aj ak 0]) 12 208 eg m4 m5 m6 m7 rfl (by decide) _ _ _ rfl (m8.alloc _) ⟨wA,0,B⟩ 1 1 (bj sxL1).toList rfl rfl (zl _ (bj sxL1) _ rfl) (zGi _) (by decide) (by decide) (by rw[World.size_alloc];omega) ?_;intro v' wB I J _ j1;obtain⟨d9,e0,rfl⟩:=zI I)
 have j2:Fr No wA (wA.alloc (am (bj sxL1) 76)):=(ay _ _).alloc _;have b5:Fr (Is (N:Q)) wA wB:=(j2.mono zn).step (cf J) (λb _ h=>by injection h with h;exact h.symm);have j3:ai (Fr (From o) w wB):=l8.step b5 (λb hb h=>by omega);have e1:∀ b,(w9:Q)<=b->¬ Is (N:Q) b:=λb hb h=>by omega
 have j4:Tr wB (w9:Q) aA cA [D0 xA nA yA,D1 zA kA uA]:=d8.1.fr b5 e1;have j5:CtO wB [D0 xA nA yA,D1 zA kA uA] ct2:=AttOf.fr d8.2 b5 (λd hd ad e=>e1 _ ((d8.1.el d hd).fresh ad e));have j6:Recs wB d9 e0 [sxL0,sxL1]:=by
  obtain⟨x,y,hv,hr,_⟩:=Recs.of_own (l:=[sxL0,sxL1]) (v:=ah d9 2 e0) I (zNv wB);cases hv;exact hr
 have z:=zH9 aA d9 B B cA e0 0 0 (w9:Q) 0 [D0 xA nA yA,D1 zA kA uA] [sxL0,sxL1] (λd=>ct2 d.index) [] [] wB j4 (by simp) j6 (HE.from h8 j3.out) (bq _) (bq _) (by simp) (by simp) (j5.txs (λd hd=>by
  rcases List.mem_cons.1 hd with rfl|hd
  .exact zFa
  .obtain rfl:=List.mem_singleton.1 hd;exact zHQ)) (sxI1 (D0 xA nA yA) (D1 zA kA uA))
  (λr S M l0 S' M' G' h1 h2 h3=>by
   rw[zPY]at h2;exact(zGY ⟨rfl,rfl,rfl,rfl,rfl⟩ ⟨rfl,rfl,rfl,rfl⟩ h1 h2).1 h3) (λr S M l0 h=>zOh h) (.inl ⟨rfl,src1 xA zA nA yA kA uA,rfl,rfl⟩)
 clear I J j1 j2 b5 e1 j4 j5 j6;apply z.mono;rintro e wC ⟨⟨mC,cC,rC,SC,MC,GC,r1,r2,r3,rfl,j7,j8,j9,e2,d2⟩,k0⟩;rw[zPY]at e2;obtain rfl:=(zGY ⟨rfl,rfl,rfl,rfl,rfl⟩ ⟨rfl,rfl,rfl,rfl⟩ j9 e2).2 d2;have m9:ai (Fr No w wC):=(j3.step k0 zn).mono (λb hb h=>by unfold From at h;have:=k5.out;omega);obtain⟨r4,n3,u2,rfl,k3,⟨m0,m1,m2,m3⟩,n9⟩:=j7.elem (k:=1) (by simp);obtain rfl:u2=sxW 2:=by simpa using k3.symm
 unfold sxW sxM sxX at m0 m1 m2 m3;simp only[Nat.one_mul]at m0 m1 m2 m3;clear z j7 j8 j9 e2 d2 k0 k3;go_wp2;go_ret;exact⟨by simp,m9.out⟩
theorem zHp: ∀ x∈keysS,x.size<=maxLen:=λx h=>by
 have o:x.size<=1:=bz (List.all_eq_true.1 (show (keysS.all λx=>decide (x.size<=1))=ao by kernel_rfl) x h);unfold bp;omega
theorem ends_walk (la:aq ar)(lc:Q)(l:af ag)(w:au)(hl:Ints w la lc l)(hE:Env w):
  be az 3 #[ah la l lc] w λe w'=>e=.returned (.bool ao)/\Fr No w w':=by
 have h9:=hE.sz;obtain⟨W1,b7,f1,-⟩:=zy w (am #[ah la l lc,aj ak 0] 25);have g8:Tape W1 (w:Q) (w:Q) 0:=by rw[b7];exact Tape.make hl 25
 have m3:(W1:Q)=(w:Q)+1:=by rw[b7];simp
 have a3:=zh hE;have o3:(l:Q)<=9223372036854775807:=by have h1:=hl.len;have h2:=hl.max;unfold bp at h2;omega
 obtain⟨w2,b8,f2,-⟩:=zy W1 (am (kcs B 0 0 B 0 0 0) 59);have m4:(w2:Q)=(W1:Q)+1:=by rw[b8];simp
 have g9:KSt w2 (W1:Q) ((W1:Q)+1) B 0 [] B 0 0 0:=by rw[b8];exact KSt.new W1 _
 have d0:=zQH W1;rw[<-b8]at d0;obtain⟨kb,e1⟩:=ε (W1:Q)
 obtain⟨tb,d1⟩:=ε (w:Q)
 have h0:ai (PK w w2 tb kb 0 [] (λ_=>()) 0 0):=by
  rw[e1,d1];exact⟨⟨B,0,[],B,0,0,g9,rfl,(λd hd=>by simp at hd),by omega⟩,g8.fr f2 (λ_ _=>id) id,(f1.step f2 zi).mono zn,by omega,by omega⟩
 rw[<-e1]at d0;have l1:tb<kb/\kb<(w2:Q)/\8<tb:=by omega
 have m5:=zh d1;clear hl hE f1 g8 b8 f2 m4 g9 e1 m3;go_enter Tryz.func3,Tryz.ntmps3;go_upto_region 2 with(fail)
 rw[<-b7,<-d1];clear b7 d1;go_wp2_with fail;apply d0.mono;rintro e x2 ⟨rfl,m6⟩;subst m6;clear d0;have h4:=zM6 w x2 tb kb 0 (λ_=>()) h0 a3 l1.2.2 (by omega);clear h0;go_wp2_with fail;apply h4.mono;rintro e w3 ⟨na,nc,ns,D,L,ct,ix,n,kt,rfl,_,_,_,_,hU,hD,_,h5,o8,o9,p0,e2,e3⟩;have HU:=zg3 hU hD h5;have e4:=zh e3;have l3:=e3.lt;clear h4 hU hD h5 e3;have a4:=zLR tb kt w3 e4.tp (by omega);go_wp2_with fail;apply a4.mono;rintro e w8 ⟨⟨ka,ea,kc,ec,k8,K,E,rfl,h6,h7,e2,h8,i0,i3,i4,p1,p2,i5⟩,F⟩;obtain⟨W9,a5,f9,b9⟩:=zy w8 (am #[ah ka K kc,aj ak 0] 33);have s8:=F.size;have s9:=zC b9;have Y:ai (StK W9 tb (w8:Q) ka ea kc ec K E):=⟨b9,h6.no f9 (λ_=>id),h7.no f9 (λ_=>id),e2.fr f9 (λ_ _=>id),h8.fr f9 (λ_ _=>id),λad e=>by have:=i0 ad e;omega,λad e=>by have:=i3 ad e;omega,by omega⟩
 have Z:=zh ((e4.tape F i5).no f9);have i6:ai (∀ x∈K,x.size<=bp):=λx hx=>zHp x (i4 x hx)
 have d5:(K:Q)<=1000000:=by omega
 obtain⟨sb,e5⟩:=ε (w8:Q)
 rw[<-e5]at Y;clear a4 h6 h7 e2 h8 i0 i3 i4 i5 F f9 b9 e4;go_upto_region 7 with(fail)
 rw[<-a5,<-e5];clear a5 e5;have t0:W9 ⟨sb,0,B⟩=ae (ah ka K kc):=zB Y.box 0;have t1:W9 ⟨sb,1,B⟩=ae (aj ak 0):=zB Y.box 1;have l9:=Z.lt;have d6:=zLS tb sb kb (kb+1) n L ct ix D ka ea kc ec E K W9 Z.a HU.1 HU.2.1 (by omega) (dw _) (by omega) (by omega) ⟨by omega,by omega⟩ (Z.env a3 l1.2.2) Y d5 i6 HU.2.2;go_wp2_with fail;apply d6.mono;rintro e i7 ⟨rfl,⟨L',i8,i9,n',d7,e6,o4,m7,o5⟩,a6,j0⟩;obtain⟨o6,j1⟩:=Z.a.blk;have X:=zh (Z.ev d7 a6);have d8:=zh (Y.ev a6 j1);have e7:=zh e6;have p3:=e6.u.len;have p4:=X.lt;clear d6 d7 e6 a6 j0 t0 t1 Z Y j1 HU;have j2:=zEQ kb (kb+1) n' L' i8 i9 i7 X.a (by omega);go_wp2_with fail;apply j2.mono;rintro e j3 ⟨⟨ta,tc,ds,rfl,d2,j4,j5,a4⟩,d9⟩;have p5:(ds:Q)<=44:=by have h:=aw cg a4;rw[bw]at h;omega
 subst a4;obtain⟨W2,j6,f2,b2⟩:=zy j3 (am #[ah ta ds tc] 39);obtain⟨xb,e8⟩:=ε (j3:Q)
 obtain⟨xs,m8⟩:=ε (i7:Q)
 rw[<-e8]at b2;rw[<-m8]at d2;have a7:=zg4 (d2.no f2) (j4.fr f2 (λ_ _=>id)) (AttOf.no j5 f2) b2;have F2:=zh (d9.step f2 zi);have s2:=F2.size;have j7:ai (CntOk ds (recL ds ds) ig0):=zJD d2.wf.ok λd hd=>(e7.u.dv (strip d) (bm hd)).1.kind
 clear j2 d2 j4 j5 d9 f2 b2;go_upto_region 10 with(fail)
 rw[<-j6,<-e8];clear j6 e8;refine zO No [(0,al),(1,al),(3,al),(4,al),(2,ao),(5,ao),(6,al)] (λw3 U=>?_);have F3:=zh (F2.step U zi);have P3:=zh (X.no F3);have S3:=zh (d8.no F3);have X3:=zg4 (a7.1.no U) (a7.2.1.fr U (λ_ _=>id)) (AttOf.no a7.2.2.1 U) (U.heap a7.2.2.2 id);have t1:∀ g:Gr No w3,g.W ⟨xb,0,B⟩=ae (ah ta ds tc):=λg=>zB (g.fr.heap X3.2.2.2 id) 0
 have t2:∀ g:Gr No w3,g.W ⟨sb,0,B⟩=ae (ah ka K kc):=λg=>zB (g.fr.heap S3.box id) 0
 have t3:∀ g:Gr No w3,g.W ⟨sb,1,B⟩=ae (aj ak 0):=λg=>zB (g.fr.heap S3.box id) 1
 have a8:=zFG (bg B) ta tc ds w3 X3.1.dv X3.1.wf.ok (by omega);obtain⟨R,hR⟩:=ε (recL ds ds)
 rw[<-hR]at a8 j7;have p6:=F3.size;have s3:=U.size;clear U hR;(repeat apply zR rfl rfl rfl;intro K hK;go_big_quiet_op;go_big_quiet_on);clear t1 t2 t3;apply zu rfl;go_wp2_with fail;apply a8.mono;rintro e w4 ⟨⟨ra,rc,rfl,hR,_,_⟩,J⟩;have F4:=zh (F3.step J zi);have S4:=zh (S3.no J);have X4:=zg4 (X3.1.no J) (X3.2.1.fr J (λ_ _=>id)) (AttOf.no X3.2.2.1 J) (J.heap X3.2.2.2 id);have P4:=zh (P3.no J);have a9:=zNt ta ra ka ea tc rc kc ec xs 0 ds R E K i8 i9 w4 X4.1 e7.u X4.2.2.1 hR (P4.env a3 l1.2.2) S4.es S4.ks d5 i6;clear a8 hR;go_wp2_with fail;apply zf J;clear J;apply zu rfl;go_wp2_with fail;apply a9.mono;rintro e w5 ⟨⟨ma,mc,M,rfl,hV,_,_,hM,re,j8⟩,N⟩;have HM:=zg2 hM (e7.done j7 j8);have F5:=zh (F4.step N zi);have X5:=zg4 (X4.1.no N) (X4.2.1.fr N (λ_ _=>id)) (AttOf.no X4.2.2.1 N) (N.heap X4.2.2.2 id);have P5:=zh (P4.no N);have HV:=zh hV;have p7:=zDj hM.v hM.d;clear a9 hV hM j8;go_wp2_with fail;apply zf N;clear N;(repeat apply zR rfl rfl rfl;intro K hK;go_big_quiet_op;go_big_quiet_on);apply zb;obtain⟨z,b0⟩:∃ z:Q->Q,z=λk=>((ds.take k).filter λd=>virB ds d.index).length:=⟨_,rfl⟩
 have e9:=zh b0;have j9:∀ k,z k<=(ds:Q):=λk=>by
  rw[b0];exact Nat.le_trans (List.length_filter_le _ _) (by rw[List.length_take];omega)
 have m9:=zh j9;clear b0 j9 F3 F4 S3 S4 X3 X4 P3 P4 a7 X d8 F2;go_wp2_with fail;have k0:∀ k x,ds[k]?=ae x->z (k+1)=z k+(if virB ds x.index=ao then 1 else 0):=λk x h=>by
  rw[e9];show ((ds.take (k+1)).filter λd=>virB ds d.index).length=_
  rw[da,h,List.filter_append,bh]
  congr 1
  cases hb:virB ds x.index<;>simp[hb]
 have n3:=zh k0;have k3:z 0=0:=by rw[e9];rfl
 have n4:ai (z (ds:Q)=(M:Q)):=by
  have h:=zJ0 HM.2 HM.1.v HM.1.d;unfold ai;rw[e9];show ((ds.take (ds:Q)).filter λd=>virB ds d.index).length=_
  rw[du];exact h
 have n5:=zh k3;clear k0 k3;go_loopw [10,11] (λv i wr=>∃ k:Q,k<=(ds:Q)/\v=aj ak ((z k:Q):ag)/\i=aj ak (k:ag)/\ai (Fr No w5 wr)) (λ_ i _=>(ds:Q)-(ax i).toNat);case atStart=>exact⟨0,by omega,by rw[n5];rfl,rfl,ay _ _⟩
 case round=>
  obtain⟨k,hk,rfl,rfl,HW⟩:=hrel;obtain⟨wA,rfl⟩:=ε wr
  have bA:=HW.heap X5.2.2.2 id;have cA:wA ⟨xb,0,B⟩=ae (ah ta ds tc):=zB bA 0;have k4:=m9.out k;by_cases b1:k<(ds:Q)
  .have b3:(k:ag)<(ds:Q):=by omega
   have TA:=X5.1.no HW;obtain⟨bb,a2,x,g0,k5,k6⟩:=TA.dv.dev b1;have k7:=zg2 TA k6;have b4:=zh (n3 k x k5);have k9:=zh g0;have n6:=zh bA;obtain⟨c,hc⟩:=ε (z k)
   rw[<-hc]at b4 k4 ⊢;rw[g0]at cA;clear TA k5 k6 g0 bA hc;go_upto_region 15 with(fail)
   clear cA;refine zO No [(0,al),(1,al),(2,al),(3,al),(4,al),(5,al),(6,al),(7,ao)] (λw6 A=>?_);have t1:∀ g:Gr No w6,g.W ⟨xb,0,B⟩=ae (ah (ae ⟨bb,a2,B⟩) ds tc):=λg=>by
    rw[<-k9];exact zB (g.fr.heap (A.heap n6 id) id) 0
   have t2:∀ g:Gr No w6,g.W ⟨bb,a2+k*10,B⟩=ae (aj ak x.index):=λg=>g.fr.cell (A.cell k7.2.c0 id) id
   have b5:=zC6 ta tc ds xs x.index w6 (k7.1.no A) ((P5.no (HW.step A zi)).env a3 l1.2.2).err;rw[k9]at b5;have F6:=zh (HW.step A zi);clear A;(repeat(first|apply zR rfl rfl rfl|apply zT rfl rfl rfl);intro K hK;go_big_quiet_op;go_big_quiet_on);clear t1 t2;apply zu rfl;go_wp2_with fail;apply b5.mono;rintro e w7 ⟨rfl,I⟩;have F7:=zh (F6.step I zi);clear b5;go_wp2_with fail;apply zf I;clear I;apply zb;cases hvb:virB ds x.index with
   | false=>
    have HE:ai (z (k+1)=c):=(by rw[hvb]at b4;exact b4);clear hvb;go_wp2;go_roundw;case rel=>exact⟨k+1,by omega,by rw[HE],by go_num,F7⟩
    case measure=>simp[ax];omega
   | true=>
    have HE:ai (z (k+1)=c+1):=(by rw[hvb]at b4;exact b4);clear hvb;go_wp2;go_roundw;case rel=>exact⟨k+1,by omega,by rw[HE];go_num,by go_num,F7⟩
    case measure=>simp[ax];omega
  .obtain rfl:k=(ds:Q):=by omega
   have b3:¬ ((ds:Q):ag)<(ds:Q):=(by omega);rw[n4];have o7:((M:Q):ag)<=30:=(by omega);clear k4 b1 bA;go_wp2_with fail;go_loopw [12] (λi wr=>∃ k:Q,k<=(M:Q)/\i=aj ak (k:ag)/\ai (Fr No w5 wr)) (λi _=>(M:Q)-(ax i).toNat);case atStart=>exact⟨0,by omega,rfl,HW⟩
   case round=>
    obtain⟨k,hk,rfl,HZ⟩:=hrel;obtain⟨O,rfl⟩:=ε wr
    by_cases b1:k<(M:Q)
    .have b3:(k:ag)<(M:Q):=(by omega);have hV:=HV.no HZ (λ_=>id);obtain⟨b,a2,v,n7,l0,⟨v0,v1,v2,_⟩,p8⟩:=hV.elem b1;have g1:=bi l0;obtain⟨d,l2,g2,l4⟩:=zPQ HM.2 HM.1.v HM.1.d g1;have hz:=zDy HM.1.v v g1;have n8:(v.q++(⟨#[47]⟩:ab)).size=v.q.size+1:=(by rw[ByteArray.size_append];rfl);have h1:(v.q++(⟨#[47]⟩:ab)).size<=9223372036854775807:=(by omega);have h3:(v.q++(⟨#[47]⟩:ab)++v.o).size<=9223372036854775807:=(by rw[ByteArray.size_append];omega);have n9:¬ 9223372036854775807<(v.q++(⟨#[47]⟩:ab)).size+v.o.size:=(by omega);have o0:(v.q++(⟨#[47]⟩:ab)).size+v.o.size<=9223372036854775807:=(by omega);have o1:¬ 9223372036854775807<v.q.size+1+v.o.size:=(by omega);have g3:=zg3 l2 g2 l4;have bB:=HZ.heap X5.2.2.2 id;have l5:=zh bB;have g4:=zg3 v0 v1 v2;have l6:∀ W,Fr No O W->be az 12 #[ba #[ah ta ds tc],ap (v.q++(⟨#[47]⟩:ab)++v.o)] W λe w'=>e=.returned (.tuple #[ba d.vals,.bool ao])/\Fr No W w':=λW hW=>zPy ta tc xs ds _ d W (X5.1.no (HZ.step hW zi)) (by omega) g2
     have g5:=zh l6;subst n7;clear hV l0 g1 l2 g2 l4 n8 bB l6 v0 v1 v2;go_upto_region 20 with(fail)
     go_cut [13,14] (λp q wx=>∃ Bt,p=bg (ae ⟨Bt,0,B⟩)/\q=.bool ao/\ai (wx.heap[Bt]?=ae (am d.vals 48))/\ai (Fr No O wx));case first=>
      refine zZ (λb=>(O:Q)<=b) (.q 0 (.q 1 (.q 2 (.q 3 (.q 4 (.q 5 (.q 6 (.q 7 (.q 8 (.q 9 (.q 10 (.q 11 (.q 12 (.m2 13 (.q 14 (.q 15 (.q 16 (.m1 17 (.m1 18 (.q 19 .fin)))))) 17 (.m1 13 (.q 14 (.q 15 (.q 16 (.m1 18 (.q 19 .fin)))))))))))))))))))) _ (λW8 F=>?_) zj;have s8:=F.size;have t1:∀ g:Gr (λb=>(O:Q)<=b) W8,g.W ⟨xb,0,B⟩=ae (ah ta ds tc):=λg=>zB (g.fr.heap (F.heap l5 id) (λh=>by have:=zC l5.out;have h:(O:Q)<=xb:=h;omega)) 0
      have t2:∀ g:Gr (λb=>(O:Q)<=b) W8,g.W ⟨b,a2+k*4,B⟩=ae (ap v.q):=λg=>g.fr.cell (F.cell g4.1 id) (λh=>by have h:(O:Q)<=b:=h;omega)
      have t3:∀ g:Gr (λb=>(O:Q)<=b) W8,g.W ⟨b,a2+k*4+1,B⟩=ae (ap v.o):=λg=>g.fr.cell (F.cell g4.2.1 id) (λh=>by have h:(O:Q)<=b:=h;omega)
      have H8:=zh F;clear F;(repeat(first|apply zL rfl rfl rfl|apply zJ rfl rfl rfl);intro K hK;go_big_quiet_op;go_big_quiet_on);clear t1 t2 t3;refine zAB rfl rfl ?_ ?_
      focus
       have y:=g5.out W8 H8;unfold cb at y;go_wp2_with fail;apply y.mono;rintro e w9 ⟨rfl,d3⟩;have s9:=d3.size;have b6:=zh (H8.step d3 zi);clear y;go_wp2_with fail;apply zm d3;clear d3;(repeat(first|apply zL rfl rfl rfl|apply zJ rfl rfl rfl);intro K hK;go_big_quiet_op;go_big_quiet_on);apply zH rfl;obtain⟨WA,l7,fA,qA⟩:=zy w9 (am #[aj ak 0,aj ak 0,(),(),(),(),(),aj ak 0,aj ak 0,ah B 0 0] 48);go_wp2_with fail;apply zp;rw[<-l7];clear l7;have e0:ai (Fr No O WA):=b6.step fA zi;have g6:ai ((O:Q)<=(w9:Q)):=(by unfold ai;omega);clear fA b6;generalize (w9:Q)=Bt at *
      rotate_left 1
      focus
       obtain⟨W9,a5,f9,q9⟩:=zy W8 (am #[aj ak 0,aj ak 0,(),(),(),(),(),aj ak 0,aj ak 0,ah B 0 0] 48);go_wp2_with fail;apply zp;rw[<-a5];clear a5;apply zH rfl;have y:=g5.out W9 (H8.step f9 zi);unfold cb at y;go_wp2_with fail;apply y.mono;rintro e WA ⟨rfl,d4⟩;have qA:=d4.heap q9 id;have e0:ai (Fr No O WA):=(H8.step f9 zi).step d4 zi;have g6:ai ((O:Q)<=(W8:Q)):=s8;clear q9 y;go_wp2_with fail;apply zm d4;(repeat(first|apply zL rfl rfl rfl|apply zJ rfl rfl rfl);intro K hK;go_big_quiet_op;go_big_quiet_on);clear f9 d4;generalize (W8:Q)=Bt at *
      all_goals (
       apply zH rfl;obtain⟨z0,z1,z2,z3,z4,z5,z6,z7,z8,z9⟩:=DevB.of (d:=⟨0,0,(),(),(),(),(),0,0,B,0,0⟩) qA;obtain⟨y0,y1,y2,y3,y4,y5,y6,y7,y8,y9⟩:=DevF.of qA;have g7:=zh (zA6 qA rfl d);clear qA;go_wp2_with fail;refine db ⟨g7.2.mono (λb _ h=>by have:=g6.out;omega),?_⟩;(repeat(first|apply zL rfl rfl rfl|apply zJ rfl rfl rfl);intro K hK;go_big_quiet_op;go_big_quiet_on);apply zW;go_wp2;go_meet;exact⟨Bt,rfl,rfl,g7.1,e0.step g7.2 (λb hb h=>by have:=g6.out;omega)⟩
       )
     case rest=>
      obtain⟨Bt,rfl,rfl,HD,HR⟩:=hcut;obtain⟨wC,rfl⟩:=ε wc
      clear h1 h3 hz n9 o0 o1 g5;go_upto_region 21 with(fail)
      refine zO No [(0,al),(1,al),(2,al),(3,al),(5,al),(6,al),(7,al),(8,al),(9,al),(4,ao),(10,al),(11,al)] (λw6 A=>?_);have l8:=A.heap HD id;have cB:∀ g:Gr No w6,DevB g.W Bt d:=λg=>DevB.of (g.fr.heap l8 id)
      have c0:=λg=>(cB g).c0
      have c1:=λg=>(cB g).c1
      have c2:=λg=>(cB g).c2
      have c3:=λg=>(cB g).c3
      have c4:=λg=>(cB g).c4
      have c5:=λg=>(cB g).c5
      have c6:=λg=>(cB g).c6
      have c7:=λg=>(cB g).c7
      have c8:=λg=>(cB g).c8
      have c9:=λg=>(cB g).c9
      have t3:∀ g:Gr No w6,g.W ⟨b,a2+k*4+2,B⟩=ae (ap v.c):=λg=>g.fr.cell (A.cell (HR.cell g4.2.2 id) id) id
      have F6:=zh ((HZ.step HR zi).step A zi);have hC:=X5.2.2.1 d g3.1;have V:=zHa d v.c w6 (by rw[<-g3.2.2];exact hC.1.no F6 (λ_=>id)) (by rw[<-g3.2.2];exact hC.2);unfold cb at V;clear cB A l8 hC;(repeat(first|apply zR rfl rfl rfl|apply zT rfl rfl rfl);intro K hK;go_big_quiet_op;go_big_quiet_on);clear c0 c1 c2 c3 c4 c5 c6 c7 c8 c9 t3;apply zu rfl;go_wp2_with fail;apply V.mono;rintro e w7 ⟨rfl,I⟩;have F7:=zh (F6.step I zi);clear V;go_wp2_with fail;apply zf I;clear I;(repeat(first|apply zR rfl rfl rfl|apply zT rfl rfl rfl);intro K hK;go_big_quiet_op;go_big_quiet_on);apply zb;go_wp2;go_roundw;case rel=>exact⟨k+1,by omega,by go_num,F7⟩
      case measure=>simp[ax];omega
    .obtain rfl:k=(M:Q):=by omega
     have b3:¬ ((M:Q):ag)<(M:Q):=(by omega);have m0:=zPC O ((P5.no HZ).env a3 l1.2.2);have HR:ai (Fr (From (w:Q)) w O):=by
      have h:=(P5.no HZ).fr;rw[m5]at h;exact h
     clear b1;go_wp2_with fail;apply m0.mono;rintro e w7 ⟨rfl,I⟩;have o2:ai (Fr No w w7):=(HR.step I zn).mono (λb hb h=>by omega);clear m0 I;go_wp2;go_ret;exact⟨rfl,o2⟩
theorem gES: Tryz.prog.globalNamed "strconv.ErrSyntax" = ae 1:=by kernel_rfl
theorem zPK: (Tryz.prog.globals[1]?).map (·.type)=ae 189:=by kernel_rfl
theorem gER: Tryz.prog.globalNamed "strconv.ErrRange" = ae 2:=by kernel_rfl
theorem zPL: (Tryz.prog.globals[2]?).map (·.type)=ae 189:=by kernel_rfl
theorem cellsE: Tryz.prog.cellsOf 370=1:=by kernel_rfl
theorem cellsS: Tryz.prog.cellsOf 9=1:=by kernel_rfl
theorem starE: "*" ++ "errors.errorString" = "*errors.errorString" := by decide
theorem rowE (u:cc)(h:Tryz.prog.typeName? 3 u=ae "*errors.errorString"):u=368:=
 typeName_ptr_named (nm := "errors.errorString") (by rw[starE];kernel_rfl) (by kernel_rfl) (by decide) u (by rw[starE];exact h)
theorem gPow: Tryz.prog.globalNamed "internal/strconv.uint64pow10" = ae 4:=by kernel_rfl
theorem zNM: (Tryz.prog.globals[4]?).map (·.type)=ae 372:=by kernel_rfl
theorem gAcc: Tryz.prog.globalNamed "unicode.CaseRanges" = ae 3:=by kernel_rfl
theorem gD64: Tryz.prog.globalNamed "math/bits.deBruijn64tab" = ae 8:=by kernel_rfl
theorem cellsU: Tryz.prog.cellsOf 296=1:=by kernel_rfl
theorem cellsP: Tryz.prog.cellsOf 372=20:=by kernel_rfl
theorem zHo {P:Program}{n:String}{d:DataW Unit}{r:af (String×DataW Unit)}{g:Q}(h:laidMet P ((n,d)::r) W)(v:P.globalNamed n=ae g):g<(W:Q):=by
 obtain⟨F,⟨I,J,y,N,O,U,z,A,u,_⟩,_⟩:=h;unfold World.var? at u;rw[v]at u;simp only[Option.bind_some]at u;cases hh:W.heap[g]? with
 | none=>simp[hh]at u
 | some o=>exact(Array.getElem?_eq_some_iff.1 hh).1
theorem env_of (u:W.ShapedOpen az)(o:laidMet az Rows.assemblyEndsRow.laid W):Env W:=by
 obtain⟨m,F⟩:=cell_of_shapedOpen_int (P:=az) (g:=0) (t:=3) (zero:=#[aj ak 0]) u (bz (by kernel_rfl)) (by kernel_rfl) rfl (by kernel_rfl) (by kernel_rfl) Tryz.underlying3;have h:=o.tail.tail.tail.tail;have U:=zHo o.tail.tail.tail.tail.tail.tail gAcc;have V:=zHo o.tail gD64;have X:=zHo h gER;obtain⟨I,Y,v,-,-,-⟩:=laid_sentinel h gER zPL dz rowE eb ed rfl rfl dg cellsE cellsS;obtain⟨y,J,z,-,-,-⟩:=laid_sentinel h.tail gES zPK dz rowE eb ed rfl rfl dg cellsE cellsS;have N:W ⟨1,0,B⟩=ae (.iface 368 (bg (ae y))):=by have A:=eh gES z 0;simpa using A
 have O:W ⟨2,0,B⟩=ae (.iface 368 (bg (ae I))):=by have A:=eh gER v 0;simpa using A
 exact⟨⟨m,F⟩,⟨⟨_,N,.inr ⟨_,_,rfl⟩⟩,⟨_,O,.inr ⟨_,_,rfl⟩⟩⟩,Lib.tabIs_of_head gPow zNM Tryz.underlying372 Tryz.underlying296 cellsU cellsP o.tail.tail,by omega⟩
section
variable {H:Type}{enc:cc×bf->H}
theorem returns_laid_sized {a:Assume}{C:Checked}{os:Os}{f:FuncId}{fn:Func}{s:ChangeSpec}{A:af PathCond}{h F y I:Bool}{X:au->bu bf->Prop}
  (hX:∀ (w w':au) (args:bu bf),w.heap=w'.heap->X w args->X w' args)
  (a7:ownKnob C.prog.godebug=B) (J:os.Started) (O:C.prog.inits.idxOf? f=B) (a8:C.prog.funcs[f]?=ae fn)
  (N:∃ (w:au) (o:Go.Tape) (i:Input),w.os=os/\(w.forCall o i).Shaped C.prog/\i.vars=[]/\Input.okWide C.prog (w.forCall o i) .any (w:Q) f i/\
   ((s.pre enc C.prog fn A h (w.forCall o i).memory i.args/\X (w.forCall o i).memory i.args)/\sizedMet enc C.prog fn (dc s) h (w.forCall o i).memory i.args)/\a.holds C.prog (lone (Frame.enter C.prog f i.args .normal) [] (w.forCall o i)))
  (z:∀ (W:au) (Y:Q) (args:bu bf) (U V:af (DataW H)) (u:af MemPlace),
   (∀ (j:Q) t v,fn.params[j]?=ae t->args[j]?=ae v->Value.okWide C.prog W .any Y t v)->
   DataW.Whole enc C.prog fn.params.toList s.vars h W args.toList U V u->
   (DataW.weightsEach C.prog (fn.params.toList++(dc s).bare.plain.varTypes C.prog) (U++V)).all (·<=reachBytes)=ao->
   X W args->W.ShapedOpen C.prog->
   be C.prog f args W λe W'=>∃ v,e=.returned v/\s.post enc C.prog fn h F y I W args v W'):
  ReturnsInHanded a C os f .any (λw args=>(s.pre enc C.prog fn A h w args/\X w args)/\sizedMet enc C.prog fn (dc s) h w args) (s.post enc C.prog fn h F y I):=by
 apply returnsInHanded_of_calls a7 J O N;intro w o i _ a9 _ b0 Z a5;obtain⟨_,_,_,b1,a2,_,_,_,_,a3⟩:=b0;have e:b1=fn:=Option.some.inj (a2.symm.trans a8);subst e;obtain⟨⟨⟨ds,gs,a6,hw,hc⟩,hx⟩,_,U,V,u,b2,hz⟩:=Z;have a4:=DataW.Whole.of_heap (w':=w.forCall o i) (by rfl) b2;refine(z (w.forCall o i) (w:Q) i.args U V u a3 a4 hz (hX _ _ _ (by rfl) hx) a9).mono λe W' ⟨v,he,hp⟩=>?_
 subst he;exact ChangeSpec.post_blind hp
end
end Go.Proofs.YtjohgekljmhheaaGreatDoor
