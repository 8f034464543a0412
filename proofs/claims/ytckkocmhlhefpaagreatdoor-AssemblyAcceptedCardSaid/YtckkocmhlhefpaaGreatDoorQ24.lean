import Derived.Deep.Slices
import Derived.SliceStrings
import Derived.ChangeArms
import Derived.SizedLaws
import Derived.Test.YtckkocmhlhefpaaGreatDoorQ23
namespace Go.Proofs.YtckkocmhlhefpaaGreatDoor
open Go.RowKit Go.Maps Go.ChangeShapes
set_option linter.unusedVariables false
set_option maxRecDepth 100000
set_option maxHeartbeats 4000000
open ArrM renaming toArr->bx
open Fr renaming refl->bg
open Go renaming World->af,splice->ak,Addr->am,Value->ap,Calls->aq,TypeId->ay,bodyPost_ret->bj,maxLen->bm,results->bp,run_storeCells_at->cq
open Go.Builtin renaming zeroCells->aw,clear_->bq
open Go.Lib renaming itoa->bh
open Go.Proofs renaming intOf->az
open Go.Proofs.Tryz renaming prog->ah,results167->bn
open Go.RowKit renaming Hid->aj
open Go.Value renaming slice->ar,agg->bb,cells->bw
open IntKind renaming i64->ac
open Obj renaming cells->ao
open Value renaming int->ad,slice->ae,string->ag,agg->ba
open Vir renaming vals->bo
open _root_ renaming List->B,ByteArray->f,Nat->a1,Int->aa,Option->al,Bool->au,Array->bc
open _root_.Array renaming length_toList->bf
open _root_.Bool renaming true->an,false->bd,beq_comm->bz,false_eq_true->cd
open _root_.ByteArray renaming empty->br
open _root_.List renaming take_of_length_le->ax,take_add_one->be,filter_append->bs,getElem?_eq_getElem->bt,length_take->bu,foldl_append->ce,getElem_mem->cf,length_append->cg,length_filter_le->ch,length_map->ci,map_append->cj,size_toArray->ck,take_append->cl,take_take->cn,toList_toArray->co
open _root_.Nat renaming le_trans->bi,le_refl->bv,min_eq_left->cp
open _root_.Option renaming some->ab,none->ai
variable{o j k c N n i g:a1}{ds m:B Dev}{tx:Dev->f}{M:B Vir}{r:aa}{s:Src}{w X:af}{J:al am}{S:B Src}{x:B Vir×B (f×f)}
def Wt {H:Type}(t:ay)(d:DataW H):Prop:=∀ n∈d.weights ah t,n<=reachBytes
theorem wt_each {H:Type}{o:B ay}{ds:B (DataW H)}(h:(DataW.weightsEach ah o ds).all (·<=reachBytes)=an){t:ay}{d:DataW H}(u:o[j]?=ab t)(v:ds[j]?=ab d):Wt t d:=λn y=>by
 have:=List.all_eq_true.1 h n (DataW.weights_mem_each u v n y)
 simpa using this
section
variable {H:Type}{enc:ay×ap->H}{w:af}{base:a1}{spare:a1->au}{held:au}
end
section
variable {H:Type}{enc:ay×ap->H}{w:af}{base:a1}{spare:a1->au}{held:au}
end
theorem zIo (a:al am)(o:a1)(l:B f)(s:f)(w:af)(F:Strs w a o l):
  aq ah 50 #[ae a l.length o,ag s] w λe w'=>IdxS l s e/\Fr No w w':=by
 have U:=F.lenmax
 go_enter Tryz.func50,Tryz.ntmps50
 go_wp2_with fail
 go_loop [8] (λi=>∃ k:a1,k<=l.length/\i=ad ac k/\aj (∀ x∈l.take k,(x.toList==s.toList)=bd)) (λi=>l.length-(az i).toNat)
 case atStart=>exact⟨0,by omega,rfl,by unfold aj;simp⟩
 case round=>
  obtain⟨k,V,rfl,u⟩:=hrel;by_cases z:k<l.length
  .have I:(k:aa)<l.length:=by omega
   obtain⟨b,R,x,rfl,J,X⟩:=F.at z;have N:=zh J;clear J;rcases he:(s.toList==x.toList)with _|_
   .have v:(x.toList==s.toList)=false:=by rw[bz];exact he
    have A:=zh v;clear v
    go_wp2_with fail
    go_round
    case rel=>
     refine⟨k+1,by omega,by go_num,?_⟩;unfold aj;intro y O;rw[be,N.out]at O;rcases List.mem_append.1 O with h|h
     .exact u.out y h
     .simp at h;subst h;exact A.out
    case measure=>simp[az];omega
   .have D:aj (hasS l s=an):=zN0 N.out (by rw[bz];exact he)
    go_wp2_with fail
    go_ret;exact⟨⟨k,rfl,by rw[D.out];simp⟩,bg _ _⟩
  .obtain rfl:k=l.length:=by omega
   have h:=u.out;rw[ax (by omega)]at h;have D:aj (hasS l s=bd):=zNz h
   go_wp2_with fail
   go_ret;exact⟨⟨-1,rfl,by rw[D.out];rfl⟩,bg _ _⟩
theorem zFD (a:al am)(h:a1)(l:B f)(s:f)(w:af)(v:Strs w a h l):
  aq ah 48 #[ae a l.length h,ag s] w λe w'=>e=.returned (.bool (hasS l s))/\Fr No w w':=by
 go_enter Tryz.func48,Tryz.ntmps48
 go_wp2_with fail
 refine(zIo a h l s _ v).mono ?_;rintro e z ⟨⟨i,rfl,u⟩,o⟩;have y:=zh u;clear u
 go_wp2_with fail
 go_ret;exact⟨zN y.out,o⟩
def lvT (id:f)(k:aa):f:=(⟨#[108,118,45]⟩:f)++id++(⟨#[45]⟩:f)++(⟨(bh k).toArray⟩:f)
def lvOk (id:f)(k:aa):Bool:=decide (1<=k)&&decide (k<=16)&&isName (lvT id k)
theorem zLz (h:f)(k:aa):(lvT h k).size=h.size+4+(bh k).length:=by
 unfold lvT;rw[ByteArray.size_append,ByteArray.size_append,ByteArray.size_append];show 3+h.size+1+(bh k).toArray.size=_
 simp;omega
theorem zOT (h:f)(k:aa)(w:af)(hE:Env w)(a3:h.size<=1000000)(hk:(Lit.int ac k).wf=an):
  aq ah 167 #[.string h,.int ac k] w λe w'=>e=.returned (.tuple #[.string (if lvOk h k=an then lvT h k else ⟨#[]⟩),.int ac (if lvOk h k=an then 0 else 340)])/\Fr No w w':=by
 have y:-9223372036854775808<=k/\k<=9223372036854775807:=by simp[Lit.wf,IntKind.min,IntKind.max,IntKind.signed,IntKind.bits]at hk;omega
 have R:=Lib.itoa_length_le k y.1 y.2;have D:=zLz h k;have h1:((⟨#[108,118,45]⟩:f)++h).size<=9223372036854775807:=by rw[ByteArray.size_append];show 3+h.size<=_;omega
 have h2:((⟨#[108,118,45]⟩:f)++h++(⟨#[45]⟩:f)).size<=9223372036854775807:=by rw[ByteArray.size_append,ByteArray.size_append];show 3+h.size+1<=_;omega
 obtain⟨u,z⟩:∃ u,u=(⟨(bh k).toArray⟩:f):=⟨_,rfl⟩
 have U:lvT h k=(⟨#[108,118,45]⟩:f)++h++(⟨#[45]⟩:f)++u:=by rw[z];rfl
 have h3:((⟨#[108,118,45]⟩:f)++h++(⟨#[45]⟩:f)++u).size<=9223372036854775807:=by rw[<-U,D];omega
 have h4:((⟨#[108,118,45]⟩:f)++h++(⟨#[45]⟩:f)++u).size<=maxLen:=by unfold bm;rw[<-U,D];omega
 have a2:u.size<=21:=by rw[z];simpa [ByteArray.size]using R
 have a4:¬ 9223372036854775807<3+h.size+1+u.size:=by omega
 have a5:¬ 9223372036854775807<((⟨#[108,118,45]⟩:f)++h++(⟨#[45]⟩:f)).size+u.size:=by rw[<-ByteArray.size_append];omega
 have a6:((⟨#[108,118,45]⟩:f)++h++(⟨#[45]⟩:f)).size+u.size<=9223372036854775807:=by omega
 obtain⟨J,F⟩:∃ J,J=lvOk h k:=⟨_,rfl⟩
 rw[<-F,U];have I:=zh F;have HL:=zh U;have V:(⟨(bh k).toArray⟩:f)=u:=z.symm;clear F U D R z
 go_enter Tryz.func167,Tryz.ntmps167
 go_wp2_with fail
 refine(Tryz.strconv_Itoa k y.1 y.2 _ hE.tab).mono ?_;rintro e w1 ⟨rfl,kk,os,rfl⟩;have o:Fr No w (Go.Sort.grow (w.drewN kk) os):=Fr.of_below_size (Lib.below_grow _ w (bv _) kk os);generalize Go.Sort.grow (w.drewN kk) os=w1 at *;rw[V];by_cases X:1<=k
 .by_cases Y:k<=16
  .go_wp2_with fail
   refine(zAN _ _ h4).mono ?_;rintro e w2 ⟨rfl,Z⟩;have A:=o.step Z zi;have N:J=isName ((⟨#[108,118,45]⟩:f)++h++(⟨#[45]⟩:f)++u):=by rw[I.out,<-HL.out];unfold lvOk;simp[X,Y]
   rw[<-N];have O:=zh A;clear o Z A N;cases J
   .go_wp2_with fail
    refine bj (v:=.tuple #[.string ⟨#[]⟩,.int ac 340]) (by simp[bp,bn,go_sem]) rfl ?_;exact⟨by simp,O.out⟩
   .go_wp2_with fail
    refine bj (v:=.tuple #[.string ((⟨#[108,118,45]⟩:f)++h++(⟨#[45]⟩:f)++u),.int ac 0]) (by simp[bp,bn,go_sem]) rfl ?_;exact⟨by simp,O.out⟩
  .have N:J=false:=by rw[I.out];unfold lvOk;simp[Y]
   subst N;have O:=zh o;clear o
   go_wp2_with fail
   refine bj (v:=.tuple #[.string ⟨#[]⟩,.int ac 340]) (by simp[bp,bn,go_sem]) rfl ?_;exact⟨by simp,O.out⟩
 .have N:J=false:=by rw[I.out];unfold lvOk;simp[X]
  subst N;have O:=zh o;clear o
  go_wp2_with fail
  refine bj (v:=.tuple #[.string ⟨#[]⟩,.int ac 340]) (by simp[bp,bn,go_sem]) rfl ?_;exact⟨by simp,O.out⟩
def wantAt (gi:f)(ins:B f)(r:aa)(i:a1):Vir:=⟨⟨#[]⟩,lvT gi ((i:aa)+1),ins[i]?.getD ⟨#[]⟩,r⟩
def wantF (gi:f)(ins:B f)(r:aa)(k:a1):B Vir:=((List.range k).filter λi:a1=>lvOk gi ((i:aa)+1)).map (wantAt gi ins r)
theorem zEg (u:f)(o:B f)(r:aa)(k:a1):wantF u o r (k+1)=wantF u o r k++(if lvOk u ((k:aa)+1)=an then [wantAt u o r k]else []):=by
 unfold wantF;rw[List.range_succ,bs,cj];cases h:lvOk u ((k:aa)+1)<;>simp[h]
theorem zJV (o:f)(h:B f)(r:aa)(k:a1):(wantF o h r k).length<=k:=by
 unfold wantF;rw[ci];exact bi (ch _ _) (by simp)
def wantL (gi:f)(t n:aa)(ins:B f)(r:aa):B Vir:=if n=t then wantF gi ins r ins.length else []
theorem zNF (F:f)(t e n rd:aa)(pa:al am)(pn pc:a1)(la:al am)(lc:a1)(o:B f)(w:af)(hE:Env w)(b0:F.size<=1000000)(hS:Strs w la lc o)(d4:o.length<=1000000):
  aq ah 118 #[ba #[ag F,ae pa pn pc,ad ac t,ad ac e,ad ac n,ae la o.length lc],ad ac rd] w λen w'=>(∃ a' c' V,en=.returned (ae a' (V:B Vir).length c')/\Virs w' a' c' V/\V=wantL F t n o rd/\∀ Z,a'=ab Z->(w:a1)<=Z.block)/\Fr No w w':=by
 obtain⟨i0,b1,b2,b3,b4⟩:=info_parts infoV;have hx:Fr No w (w.alloc (ao #[ag F,ae pa pn pc,ad ac t,ad ac e,ad ac n,ae la o.length lc] 183)):=(bg _ _).alloc _;have q0:=zF w (ao #[ag F,ae pa pn pc,ad ac t,ad ac e,ad ac n,ae la o.length lc] 183);have hm:=hS.lenmax;have a2:=hS.no hx (λ_=>id);have a5:=hE.no hx;have b5:=zC q0;obtain⟨W0,a3⟩:∃ W0,W0=w.alloc (ao #[ag F,ae pa pn pc,ad ac t,ad ac e,ad ac n,ae la o.length lc] 183):=⟨_,rfl⟩
 rw[<-a3]at hx q0 a2 a5 b5;obtain⟨x0,-,x2,-,x4,x5⟩:=cl6 q0;have Hx:=zh hx;clear hx hS hE
 go_enter Tryz.func118,Tryz.ntmps118
 go_upto_region 1 with(fail)
 rw[<-a3];clear a3;by_cases O:n=t
 .subst O
  go_wp2_with fail
  go_loopw [5,18] (λu i wr=>∃ (j:a1) (V:B Vir) (av:al am) (cv:a1),j<=o.length/\V.length<=j/\u=ae av V.length cv/\i=ad ac (j:aa)/\wr.ownsRow (W0:a1) 97 4 (ae av V.length cv) V.length (vflat V)/\aj (V=wantF F o rd j)/\Fr (From (W0:a1)) W0 wr) (λ_ i _=>o.length-(az i).toNat)
  case atStart=>exact⟨0,[],ai,0,by omega,by simp,rfl,rfl,World.ownsRow_nil _ _ _ _,by unfold aj wantF;simp,bg _ _⟩
  case round=>
   obtain⟨j,V,av,cv,hj,d5,rfl,rfl,v,HV,N⟩:=hrel;have d2:V.length<=1000000:=by omega
   by_cases b6:j<o.length
   .have d3:(j:aa)<o.length:=by omega
    obtain⟨b,d6,x,rfl,a6,hc⟩:=(a2.fr N (λZ e b7=>by have:=(a2.cell Z e b7).2.1;omega)).at b6;have y0:wr.cell? ⟨w,0,ai⟩=ab (ag F):=N.cell x0 (by show ¬ From (W0:a1) (w:a1);omega);have y:=zOT F ((j:aa)+1) wr (a5.no (N.mono (λb hb h=>by omega))) b0 (WalkArith.wf_i64 (by omega));have b8:=zh a6;have d7:=N.size;clear a6;rcases hok:lvOk F ((j:aa)+1)with _|_
    .rw[hok]at y;simp only[cd,if_false]at y;have R:aj (V=wantF F o rd (j+1)):=by unfold aj;rw[zEg,hok];simpa using HV.out
     clear hok
     go_wp2_with fail
     refine y.mono ?_;rintro en w1 ⟨rfl,z⟩;have H:=zg2 (zG v z zi) (N.step z zn);clear v N z y HV
     go_wp2_with fail
     go_roundw
     case rel=>exact⟨j+1,V,av,cv,by omega,by omega,rfl,by go_num,H.out.1,R,H.out.2⟩
     case measure=>simp[az];omega
    .rw[hok]at y;simp only[if_true]at y;have R:aj (wantF F o rd (j+1)=V++[⟨⟨#[]⟩,lvT F ((j:aa)+1),x,rd⟩]):=by
      unfold aj;rw[zEg,hok,<-HV.out,if_pos rfl];unfold wantAt;rw[b8.out];rfl
     clear hok
     go_wp2_with fail
     refine y.mono ?_;rintro en w1 ⟨rfl,z⟩;have A:=zG v z zi;have U:=N.step z zn;have d8:=z.size;have a4:=zh A;have a7:=zh U;obtain⟨nm,X⟩:∃ nm,nm=lvT F ((j:aa)+1):=⟨_,rfl⟩
     rw[<-X]at R ⊢;clear v N z y HV U X
     go_wp2_with (at_builtin;refine wpList_append_own _ rfl _ _ 49 rfl (W0:a1) 97 i0 (ba #[ag br,ag br,ag br,ad ac 0]) 4 56 Tryz.underlying49 b1 b2 b3 b4 rfl (by decide) _ _ _ rfl (A.alloc _) ⟨w1,0,ai⟩ 1 1 (bo ⟨⟨#[]⟩,nm,x,rd⟩).toList rfl rfl (zg _ (bo ⟨⟨#[]⟩,nm,x,rd⟩) _ rfl) (zCN _) (by unfold bm;omega) (by omega) (by first|omega|(simp;done)|(simp;omega)) ?_;intro v' w6 D I _;obtain⟨b9,d0,rfl⟩:=zI D)
     have a8:Fr (λb=>(ar av V.length cv).ownBlock=ab b) (w1.alloc (ao (bo ⟨⟨#[]⟩,nm,x,rd⟩) 97)) w6:=Fr.of_grown I;have a9:Fr No w1 (w1.alloc (ao (bo ⟨⟨#[]⟩,nm,x,rd⟩) 97)):=(bg _ _).alloc _;have HF:=zg2 D ((a7.out.step a9 zn).step a8 (λb _ h=>zP a4.out h));clear D a8 a9 I A
     go_roundw
     case rel=>exact⟨j+1,V++[⟨⟨#[]⟩,nm,x,rd⟩],b9,d0,by omega,by simp;omega,by simp,by go_num,by rw[cg,zBs];exact HF.out.1,zh R.out.symm,HF.out.2⟩
     case measure=>simp[az];omega
   .obtain rfl:j=o.length:=by omega
    obtain⟨a',c',hv,hR,J⟩:=Virs.of_own v;cases hv;have Y:=Hx.out.size;have H:=zg2 (And.intro hR (λZ e=>bi Y (J Z e))) (Hx.out.step (N.mono (T:=No) (λb hb h=>by omega)) zi);clear v N hR J Y
    go_wp2_with fail
    go_ret;exact⟨⟨_,_,V,rfl,H.out.1.1,by unfold wantL;rw[if_pos rfl];exact HV.out,H.out.1.2⟩,H.out.2⟩
 .have hb:(n != t)=true:=by simpa using O
  have d1:=zh O;clear O
  go_wp2_with fail
  go_ret;exact⟨⟨ai,0,[],rfl,Virs.nil _,by unfold wantL;rw[if_neg d1.out],λZ e=>by cases e⟩,Hx.out⟩
def againB (ds:B Dev)(tx:Dev->f)(M:B Vir)(r:aa)(s:Src):Bool:=
 match M.find? (λv=>decide ((v.q,v.o)=(plc ds s.d.parent,s.d.orig)))with
 | some v=>(v.r==r)&&(v.c.toList==(tx s.d).toList)
 | none=>bd
def moreS (ds:B Dev)(tx:Dev->f)(M:B Vir)(r:aa)(C:B Src)(k:a1):B Src:=((C.take k).filter (againB ds tx M r)).map λs=>{ s with r:=r }
theorem zI3 {C:B Src}(h:C[k]?=ab s):moreS ds tx M r C (k+1)=moreS ds tx M r C k++(if againB ds tx M r s=an then [{ s with r:=r }]else []):=by
 unfold moreS;rw[be,h,bs,cj]
 congr 1
 cases hb:againB ds tx M r s<;>simp[hb]
theorem zKH (ds:B Dev)(tx:Dev->f)(M:B Vir)(r:aa)(C:B Src)(k:a1):(moreS ds tx M r C k).length<=C.length:=by
 unfold moreS;rw[ci];exact bi (ch _ _) (by rw[bu];omega)
theorem RS.growS {c:RC}{X:af}{A:al am}{D:a1}{U:B (f×f)}(h:RS c w A D J N S M U){s:Src}
  {O:al am} {R:a1} (y:Fr (λb=>b=c.xb\/(ar A S.length D).ownBlock=ab b) w X)
  (Y:X.heap[c.xb]?=ab (ao (rcs c.ka c.kn c.kc c.wt c.a c.n c.cap c.ca c.C.length c.cc c.ea c.en c.ec O (S.length+1) R c.wm c.sm J M.length N) 85))
  (Z:X.ownsRow c.b2 134 13 (ae O (S.length+1) R) (S.length+1) (sflat S++s.vals.toList)):RS c X O R J N (S++[s]) M U:=by
 have V:(S++[s]).length=S.length+1:=by simp
 have a2:=h.lo;have v:∀ b,(ar A S.length D).ownBlock=ab b->c.b2<=b:=λb F=>zP h.so F
 have z:∀ u,c.ca=ab u->¬ (u.block=c.xb\/(ar A S.length D).ownBlock=ab u.block):=λu e o=>by
  have h1:=h.cb u e;rcases o with o|o
  .obtain⟨cs,I⟩:=h1.2.2 u e;rw[o,h.k]at I;injection I with I
   injection I with _ e2
   exact absurd e2 (by decide)
  .have:=v _ o;omega
 refine⟨by rw[V];exact Y,by rw[V,zCt];exact Z,zG h.mo y (λb F o=>?_),h.cs.fr y (λu e _=>z u e),λu e=>⟨(h.cb u e).1,(h.cb u e).2.1,(h.cb u e).2.2.fr y z⟩,h.wmo.fr y (λo=>?_),h.smo.fr y (λo=>?_),h.ne,h.lo,bi h.b2l y.size⟩
 .rcases o with o|o
  .subst o;exact zK h.mo h.k (by decide) F
  .obtain⟨u,rfl,rfl⟩:=zBU F;exact BlkT.ne h.so (zAG h.mo) (by decide) u rfl o
 .rcases o with o|o
  .exact h.wmo.ne_cells h.k (Eq.symm o)
  .have:=v _ o;omega
 .rcases o with o|o
  .exact h.smo.ne_cells h.k (Eq.symm o)
  .have:=v _ o;omega
theorem RS.perm {c:RC}{X:af}{z:al am}{A:a1}{D:B Src}{O:B (f×f)}(h:RS c w z A J N S M O)
  (y:Fr (λb=>(ar z S.length A).ownBlock=ab b) w X) (R:D.length=S.length)
  (U:X.ownsRow c.b2 134 13 (ae z D.length A) D.length (sflat D)):RS c X z A J N D M O:=by
 have V:=h.lo;have u:∀ b,(ar z S.length A).ownBlock=ab b->c.b2<=b:=λb I=>zP h.so I
 have F:∀ o,c.ca=ab o->¬ ((ar z S.length A).ownBlock=ab o.block):=λo e v=>by
  have Y:=h.cb o e;have:=u _ v;omega
 refine⟨by rw[R];exact y.heap h.k (λv=>by have:=u _ v;omega),U,zG h.mo y (λb I v=>?_),h.cs.fr y (λo e _=>F o e),λo e=>⟨(h.cb o e).1,(h.cb o e).2.1,(h.cb o e).2.2.fr y F⟩,h.wmo.fr y (λv=>?_),h.smo.fr y (λv=>?_),h.ne,h.lo,bi h.b2l y.size⟩
 .obtain⟨o,rfl,rfl⟩:=zBU I;exact BlkT.ne h.so (zAG h.mo) (by decide) o rfl v
 .have:=u _ v;omega
 .have:=u _ v;omega
def mdK : f:=⟨#[109,100]⟩
def zA0 (ds:B Dev)(E:B f)(r:aa)(x:B Vir×B (f×f))(m:ArrM):B Vir×B (f×f):=
 if mustB m.t m.e m.n (exB ds m.i) (hasS E m.i)=an then
  (if (x.2.any λy=>decide (y=(mdK,m.i)))=an then (x.1,x.2++[(mdK,m.i)])else (zAE x.1 (mdOf m.i m.l r),x.2++[(mdK,m.i)]))
 else x
def arrAll (ds:B Dev)(E:B f)(r:aa)(x:B Vir×B (f×f))(O:B ArrM)(k:a1):B Vir×B (f×f):=(O.take k).foldl (zA0 ds E r) x
theorem zEO {E:B f}{O:B ArrM}{m:ArrM}(h:O[k]?=ab m):arrAll ds E r x O (k+1)=zA0 ds E r (arrAll ds E r x O k) m:=by
 unfold arrAll;rw[be,h,ce];rfl
theorem zHU (ds:B Dev)(E:B f)(r:aa)(x:B Vir×B (f×f))(m:ArrM):(zA0 ds E r x m).1.length<=x.1.length+1/\(zA0 ds E r x m).2.length<=x.2.length+1:=by
 unfold zA0;split
 .split
  .simp
  .exact⟨zDZ _ _,by simp⟩
 .simp
theorem zC9 (ds:B Dev)(E:B f)(r:aa)(x:B Vir×B (f×f))(O:B ArrM):∀ k,(arrAll ds E r x O k).1.length<=x.1.length+k/\(arrAll ds E r x O k).2.length<=x.2.length+k:=by
 intro k
 induction k with
 | zero=>simp[arrAll]
 | succ k o=>
  by_cases h:k<O.length
  .rw[zEO (bt h)];have:=zHU ds E r (arrAll ds E r x O k) O[k];omega
  .have:arrAll ds E r x O (k+1)=arrAll ds E r x O k:=by unfold arrAll;rw[ax (by omega),ax (by omega)]
   rw[this];omega
def lvK : f:=⟨#[108,118]⟩
def zAb (r:aa)(x:B Vir×B (f×f))(m:ArrM):B Vir×B (f×f):=
 if m.n=m.t then
  (if (x.2.any λy=>decide (y=(lvK,m.i)))=an then (x.1,x.2++[(lvK,m.i)])else (zr x.1 (wantL m.i m.t m.n m.l r),x.2++[(lvK,m.i)]))
 else x
def grpAll (r:aa)(x:B Vir×B (f×f))(O:B ArrM)(k:a1):B Vir×B (f×f):=(O.take k).foldl (zAb r) x
theorem zD6 {O:B ArrM}{m:ArrM}(h:O[k]?=ab m):grpAll r x O (k+1)=zAb r (grpAll r x O k) m:=by
 unfold grpAll;rw[be,h,ce];rfl
theorem zFu (o:f)(t n:aa)(h:B f)(r:aa):(wantL o t n h r).length<=h.length:=by
 unfold wantL;split
 .exact zJV _ _ _ _
 .simp
theorem zHG (r:aa)(x:B Vir×B (f×f))(m:ArrM)(h:m.l.length<=16):(zAb r x m).1.length<=x.1.length+16/\(zAb r x m).2.length<=x.2.length+1:=by
 unfold zAb;split
 .split
  .simp
  .have o:=zAt (wantL m.i m.t m.n m.l r) x.1;have u:=zFu m.i m.t m.n m.l r;exact⟨by dsimp only;omega,by simp⟩
 .simp
theorem zJA (r:aa)(x:B Vir×B (f×f))(O:B ArrM)(o:∀ m∈O,m.l.length<=16):∀ k,(grpAll r x O k).1.length<=x.1.length+16*k/\(grpAll r x O k).2.length<=x.2.length+k:=by
 intro k
 induction k with
 | zero=>simp[grpAll]
 | succ k u=>
  by_cases h:k<O.length
  .rw[zD6 (bt h)];have:=zHG r (grpAll r x O k) O[k] (o _ (cf h));omega
  .have:grpAll r x O (k+1)=grpAll r x O k:=by unfold grpAll;rw[ax (by omega),ax (by omega)]
   rw[this];omega
theorem zJS {A:f}{t n:aa}{u:B f}{v:Vir}(h:v∈wantL A t n u r):v.q.size=0/\v.o.size<=32:=by
 unfold wantL at h;split at h
 .unfold wantF at h;obtain⟨i,D,rfl⟩:=List.mem_map.1 h;have y:=(List.mem_filter.1 D).2;refine⟨rfl,?_⟩;unfold lvOk at y;simp only[Bool.and_eq_true]at y;have z:=y.2;unfold isName at z;simp at z;exact z.1.1.1.2
 .cases h
def MidR (ds:B Dev)(tx:Dev->f)(E K:B f)(r:aa)(S:B Src)(M:B Vir)(G:B (f×f))(M3:B Vir)(G2:B (f×f)):Prop:=
 ∃ (L2:B Mem) (ids2:B f) (O2:B ArrM) (M2:B Vir) (L3:B Mem) (ids3:B f),
  L2.map Mem.k=S.filterMap (λs=>ofK 2 mk2 s.o s.r (tx s.d))/\IsIds2 (zv soundA L2) ids2/\O2.map bx=ids2.map (buildA (zv soundA L2))/\
  (M2,G2)=arrAll ds E r (wantS tx S M r S.length,G) O2 O2.length/\
  L3.map Mem.k=S.filterMap (λs=>ofK 3 mk3 s.o s.r (tx s.d))/\IsIds L3 ids3/\M3=zr M2 ((opened ids3 K).map (virOf L3 r))
def NextR (ds:B Dev)(tx:Dev->f)(E K:B f)(C:B Src)(r:aa)(S:B Src)(M:B Vir)(G:B (f×f))(S':B Src)(M':B Vir)(G':B (f×f)):Prop:=
 (∃ (M3:B Vir) (G2:B (f×f)) (L4:B Mem) (ids4:B f) (O4:B ArrM),MidR ds tx E K r S M G M3 G2/\
  L4.map Mem.k=S.filterMap (λs=>ofK 4 mk4 s.o s.r (tx s.d))/\IsIds2 (zv soundB L4) ids4/\O4.map bx=ids4.map (buildA (zv soundB L4))/\
  (M',G')=grpAll r (M3,G2) O4 O4.length)/\
 S'.Perm (S++moreS ds tx M' r C C.length)/\S'.Pairwise (λx y=>x.at_<=y.at_)
theorem zBg (h:TreeOk ds)(o:ds.length<=250)(n:aa):(plc ds n).size<=33*250:=by
 rw[<-zC0 h];have:=zB0 h.sz ds.length n;rw[List.take_length]at this;omega
theorem zEc (M:B Vir)(p:f×f):∃ y:Vir,(wantG M p).getD zE7=ba #[ag y.q,ag y.o,ag y.c,ad ac y.r]/\∀ v,M.find? (λv=>decide ((v.q,v.o)=p))=ab v->y=v:=by
 unfold wantG;cases hq:M.find? (λv=>decide ((v.q,v.o)=p))with
 | none=>exact⟨⟨⟨#[]⟩,⟨#[]⟩,⟨#[]⟩,0⟩,rfl,λv h=>by cases h⟩
 | some v=>exact⟨v,rfl,λu h=>by injection h⟩
theorem zLI {tx:Dev->f}{r:aa}{P:f}{y:Vir}(h:P=plc ds s.d.parent)(u:∀ v,M.find? (λv=>decide ((v.q,v.o)=(P,s.d.orig)))=ab v->y=v):
  againB ds tx M r s=((wantG M (P,s.d.orig)).isSome&&((y.r==r)&&(y.c.toList==(tx s.d).toList))):=by
 unfold againB wantG;rw[<-h];cases hq:M.find? (λv=>decide ((v.q,v.o)=(P,s.d.orig)))with
 | none=>rfl
 | some v=>rw[u v hq];rfl
theorem zMB (p:al am)(h:a1)(o:ap)(w:af):
  aq ah 209 #[ae p 0 h,ad ac 0,ad ac 0,o] w λe w'=>e=.returned (.tuple #[])/\w'=w:=by
 go_enter Tryz.func209,Tryz.ntmps209
 go_wp2;refine wp_loop_rounds 1 ?_;rw[rounds_succ];go_wp2
 go_end0
 exact⟨rfl,rfl⟩
theorem zLq (p:al am)(h:a1)(o:aa)(u:ap)(w:af):
  aq ah 168 #[ae p 0 h,ad ac 0,ad ac 0,ad ac o,u] w λe w'=>e=.returned (.tuple #[])/\w'=w:=by
 have v:=zMB p h u w
 go_enter Tryz.func168,Tryz.ntmps168
 go_wp2;refine wp_loop_rounds 1 ?_;rw[rounds_succ]
 go_wp2_with fail
 refine v.mono ?_;rintro e w' ⟨rfl,rfl⟩
 go_wp2_with fail
 (try simp only[Exit.inBlock,Exit.then]);refine bj (results_none rfl _ _ _) rfl ?_
 exact⟨rfl,rfl⟩
theorem zJl (p:al am)(h:a1)(u:ap)(w:af)(v:aq ah 169 #[ad .u64 0] w λe w'=>(∃ k,e=.returned (ad ac k))/\w'=w):
  aq ah 119 #[ae p 0 h,u] w λe w'=>e=.returned (.tuple #[])/\w'=w:=by
 have y:=λo=>zLq p h o u w
 go_enter Tryz.func119,Tryz.ntmps119
 go_wp2_with fail
 refine v.mono ?_;rintro e w' ⟨⟨k,rfl⟩,rfl⟩
 go_wp2_with fail
 refine(y k).mono ?_;rintro e w' ⟨rfl,rfl⟩
 go_wp2_with fail
 go_end0
 exact⟨rfl,rfl⟩
theorem zBc {P:Program}{F:bc Oper}{D:B Oper}{o:Oper}{a:Act}{w:af}{Q:Exit->Act->af->Prop}(R:o.guard=ai)(O:ay)(x y:Operand)(V:o.op=.store O x y)
  (g z:a1) (u:bc ap) (X:a.eval x=.pointer (ab ⟨g,z,ai⟩)) (Y:a.eval y=ba u) (t:ay) (A:bc ap) (Z:w.heap[g]?=ab (ao A t (0,0))) (U:(P.info? O).map (·.size)=ab u.size)
  (I:z+u.size<=A.size) (h1:∀ v∈u.toList,v.oneCell'=an)
  (h:wpList P F Q D (a.put o.dst undef) (w.setRow g (ak A.toList z u.toList).toArray)):wpList P F Q (o::D) a w:=by
 refine wpList_plain R λa2 hK=>?_
 have J:=cq P g z t u.toList 0 A w Z (by simpa using I) h1;have N:(storeVar O ⟨g,z,ai⟩ (ba u)).run P w=.ok () (w.setRow g (ak A.toList z u.toList).toArray):=by
  cases hq:P.info? O with
  | none=>simp[hq]at U
  | some i=>
   have hs:u.size=i.size:=by simp[hq]at U;omega
   simp only[Nat.add_zero,bf]at J;simp[storeVar,sizeOf,typeInfo,hq,bw,hs,J,ak]
 unfold Oper.wp execOp;simp only[V,X,Y,Instr.storeAt,Instr.sureAddr,Sem.run_bind,Sem.run_pure,Result.andThen_ok,N];exact hK _ _ h
theorem zMH {x:Dev}(h:i<m.length):ak (flat m) (i*10) x.vals.toList=flat (m.set i x):=by
 have e:(i*10+x.vals.toList.length)=(i+1)*10:=by rw[show x.vals.toList.length=10 from rfl];omega
 unfold ak;rw[e,(zD9 i m).1,(zD9 (i+1) m).2,List.set_eq_take_append_cons_drop,if_pos h,zIK];rfl
structure DRow (w:af)(g c n:a1)(m:B Dev):Prop where
 blk:∃ cur,w.heap[g]?=ab (ao cur 36)/\cur.size=c*10/\cur.toList.take (n*10)=flat m
 len:m.length=n
 nc:n<=c
 cm:c<=bm
theorem DRow.fr {S:a1->Prop}{w':af}(h:DRow w g c n m)(u:Fr S w w')(v:¬ S g):DRow w' g c n m:=by
 obtain⟨o,y,z,A⟩:=h.blk;exact⟨⟨o,u.heap y v,z,A⟩,h.len,h.nc,h.cm⟩
theorem DRow.dev (h:DRow w g c n m){x:Dev}(v:m[j]?=ab x):DevAt w g (j*10) x:=by
 obtain⟨y,z,F,A⟩:=h.blk;have I:=(List.getElem?_eq_some_iff.1 v).1;have o:∀ u,u<10->w.cell? ⟨g,j*10+u,ai⟩=ab (x.cell u):=λu D=>by
  have e:=zHI m j x v u D;rw[<-A,List.getElem?_take_of_lt (by have:=h.len;omega),Array.getElem?_toList]at e;rw[zB z];exact e
 exact⟨o 0 (by omega),o 1 (by omega),o 2 (by omega),o 3 (by omega),o 4 (by omega),o 5 (by omega),o 6 (by omega),o 7 (by omega),o 8 (by omega),o 9 (by omega)⟩
theorem zGw {α:Type}{L cs:B α}(h:o+cs.length<=k)(D:k<=L.length):(ak L o cs).take k=ak (L.take k) o cs:=by
 have u:(L.take o).length=o:=by rw[bu];omega
 have v:(L.take o).take k=L.take o:=ax (by omega);have y:cs.take (k-o)=cs:=ax (by omega);have z:(L.take k).take o=L.take o:=by rw[cn,cp (by omega)]
 have A:(L.take k).drop (o+cs.length)=(L.drop (o+cs.length)).take (k-o-cs.length):=by rw[List.drop_take,Nat.sub_sub]
 unfold ak;rw[cl,u,v,cl,y,z,A]
theorem DRow.set (h:DRow w g c n m)(A:i<n)(x:Dev){o:bc ap}(v:w.heap[g]?=ab (ao o 36)):DRow (w.setRow g (ak o.toList (i*10) x.vals.toList).toArray) g c n (m.set i x):=by
 obtain⟨y,z,D,F⟩:=h.blk;rw[v]at z;cases z;have u:x.vals.toList.length=10:=rfl;refine⟨⟨_,setRow_heap w g o _ _ _ v,?_,?_⟩,by rw[List.length_set,h.len],h.nc,h.cm⟩
 .have:=h.nc;rw[ck,length_splice _ _ _ (by rw[u,bf];omega),bf];exact D
 .rw[co,<-zMH (by rw[h.len];exact A),<-F];exact zGw (by rw[u];omega) (by rw[bf];have:=h.nc;omega)
theorem DRow.of {a:al am}{cs:B Dev}(h:w.ownsRow o 36 10 (ae a cs.length c) cs.length (flat cs))(N:0<cs.length):∃ g,a=ab ⟨g,0,ai⟩/\o<=g/\DRow w g c cs.length cs:=by
 obtain⟨_,⟨v,O⟩|⟨g,y,u,v,z,A,D,F,I,J⟩⟩:=h
 .omega
 .cases v;exact⟨g,rfl,z,⟨⟨u,A,I,J⟩,rfl,D,F⟩⟩
structure DelI {α:Type}(p:α->au)(l m:B α)(i j:a1):Prop where
 len:m.length=l.length
 lo:m.take i=(l.take j).filter λx=>!p x
 hi:m.drop j=l.drop j
 il:i=((l.take j).filter λx=>!p x).length
section
variable {α:Type}{p:α->au}{l m:B α}{i j:a1}{x:α}
theorem zGs (h:l[j]?=ab x):(l.take (j+1)).filter (λx=>!p x)=(l.take j).filter (λx=>!p x)++(if p x then []else [x]):=by
 rw[be,h,bs];cases hp:p x<;>simp[hp]
theorem DelI.start (h:l[j]?=ab x)(u:p x=an)(v:∀ y∈l.take j,p y=bd):DelI p l l j (j+1):=by
 have z:(l.take j).filter (λx=>!p x)=l.take j:=List.filter_eq_self.2 λy A=>by rw[v y A];rfl
 have o:(l.take (j+1)).filter (λx=>!p x)=l.take j:=by rw[zGs h,z,u];simp
 have D:j<l.length:=(List.getElem?_eq_some_iff.1 h).1;exact⟨rfl,o.symm,rfl,by rw[o];simp;omega⟩
theorem DelI.next (h:DelI p l m i j):m.drop (j+1)=l.drop (j+1):=by
 have:=congrArg (List.drop 1) h.hi
 simpa [List.drop_drop]using this
theorem DelI.at (h:DelI p l m i j)(o:l[j]?=ab x):m[j]?=ab x:=by
 have e:(m.drop j)[0]?=(l.drop j)[0]?:=by rw[h.hi]
 simpa [o]using e
theorem DelI.skip (h:DelI p l m i j)(u:l[j]?=ab x)(v:p x=an):DelI p l m i (j+1):=by
 have o:(l.take (j+1)).filter (λx=>!p x)=(l.take j).filter (λx=>!p x):=by rw[zGs u,v];simp
 exact⟨h.len,by rw[o];exact h.lo,h.next,by rw[o];exact h.il⟩
theorem DelI.put (h:DelI p l m i j)(o:l[j]?=ab x)(v:p x=bd)(y:i<j):DelI p l (m.set i x) (i+1) (j+1):=by
 have A:j<l.length:=(List.getElem?_eq_some_iff.1 o).1;have u:(l.take (j+1)).filter (λx=>!p x)=(l.take j).filter (λx=>!p x)++[x]:=by rw[zGs o,v];simp
 have z:=h.len;refine⟨by simp[z],?_,?_,by rw[u,cg,<-h.il];rfl⟩
 .rw[u,<-h.lo,be,List.getElem?_set_self (by omega),List.take_set_of_le (bv i)];rfl
 .rw[List.drop_set,if_pos (by omega)];exact h.next
end
theorem zGY (k:a1):(aw (bb Dev.zero.vals).cells k).toList.length=k*10:=by simp[aw,bw,Dev.vals]
theorem zKk (k:a1):∀ u∈(aw (bb Dev.zero.vals).cells k).toList,u.oneCell'=true:=by
 intro u h;simp only[aw,bw,Array.toList_map,List.mem_map]at h;obtain⟨v,_,rfl⟩:=h;have y:Dev.zero.vals.size=10:=rfl;have o:v % Dev.zero.vals.size<Dev.zero.vals.size:=Nat.mod_lt _ (by rw[y];omega);rw[getElem!_pos Dev.zero.vals _ o];exact zAT Dev.zero _ (by rw[<-Array.getElem_toList o];exact cf _)
theorem zFG (w:af)(v:ay)(g c n i y:a1)(m:B Dev)(o:bc ap)(h:w.heap[g]?=ab (ao o 36))(D:n*10<=o.size)(F:i<n):
  (bq #[45] v #[ae (ab ⟨g,i*10,ai⟩) (n-i) y]).run ah w=.ok (.tuple #[]) (w.setRow g (ak o.toList (i*10) (aw (bb Dev.zero.vals).cells (n-i)).toList).toArray):=by
 have u:=cq ah g (i*10) 36 (aw (bb Dev.zero.vals).cells (n-i)).toList 0 o w h (by rw[zGY];omega) (zKk _);obtain⟨k,z⟩:∃ k,n-i=k+1:=⟨n-i-1,by omega⟩
 have A:bb Dev.zero.vals=ba #[ad ac 0,ad ac 0,ag ⟨#[]⟩,ag ⟨#[]⟩,ag ⟨#[]⟩,ag ⟨#[]⟩,ag ⟨#[]⟩,ad ac 0,ad ac 0,ae ai 0 0]:=rfl;rw[z,A]at u ⊢;simp[bq,run_underlying Tryz.underlying45,u,ak]
theorem DRow.devs (h:DRow w g c n m):Devs w (ab ⟨g,0,ai⟩) c m:=by
 obtain⟨o,u,_⟩:=h.blk;refine⟨by rw[h.len];exact h.nc,h.cm,(λe=>by cases e),λU e _=>?_⟩;cases e;refine⟨rfl,zC u,λi d v j y=>?_⟩;obtain⟨z,c1,A,D,F,I,J,N,O,R⟩:=h.dev v;rw[Nat.zero_add]
 match j,y with
 | 0,_=>exact z
 | 1,_=>exact c1
 | 2,_=>exact A
 | 3,_=>exact D
 | 4,_=>exact F
 | 5,_=>exact I
 | 6,_=>exact J
 | 7,_=>exact N
 | 8,_=>exact O
 | 9,_=>exact R
theorem zIO {α:Type}(p:α->au):∀ (l:B α) (k:a1),fidx p l=k->∀ y∈l.take k,p y=bd
 | [],k,h,y,o=>by simp at o
 | x::t,0,h,y,o=>by simp at o
 | x::t,k+1,h,y,o=>by
  unfold fidx at h;cases hp:p x with
  | true=>rw[hp]at h;simp at h;omega
  | false=>
   rw[hp]at h;simp only[cd,if_false]at h;split at h
   .omega
   .rw[List.take_succ_cons]at o;rcases List.mem_cons.1 o with rfl|o
    .exact hp
    .exact zIO p t k (by omega) y o
theorem zJC (gf:a1)(cb:bc ap)(eg:∀ args w,(callFunc gf args).run ah w=.ok (.enter gf args) w)(p:Dev->au)(N:a1)(av:al am)(A:a1)(cs:B Dev)(w:af)(v:w.ownsRow N 36 10 (ae av cs.length A) cs.length (flat cs))(hn:cs.length<=1000)
  (D:∀ x∈cs,∀ W,Fr (λb=>(ar av cs.length A).ownBlock=ab b) w W->aq ah gf (#[ba x.vals]++cb) W λe w'=>e=.returned (.bool (p x))/\Fr No W w'):
  aq ah 126 #[ae av cs.length A,.func (.func gf) #[] cb] w λe w'=>(∃ a' c' k,e=.returned (ae a' k c')/\k=(cs.filter λx=>!p x).length/\w'.ownsRow N 36 10 (ae a' k c') k (flat (cs.filter λx=>!p x)))/\Fr (λb=>(ar av cs.length A).ownBlock=ab b) w w':=by
 obtain⟨a0,e5,hv,hD,_⟩:=Devs.of_own v;injection hv with e1 e2 e3
 subst e1 e3;have a5:=zBk gf cb eg p av A cs w hD (λd hd W hf=>D d hd W (hf.mono zn));have e6:=hD.lenmax;have a6:=zh D;clear D
 go_enter Tryz.func126,Tryz.ntmps126
 go_wp2_with fail
 refine a5.mono ?_;rintro e w1 ⟨rfl,I⟩;rcases zAj p cs with⟨J,_,X⟩|⟨k,x0,J,a7,_,b5,_⟩
 .rw[J];have d4:aj ((cs.filter λx=>!p x)=cs):=List.filter_eq_self.2 λy hy=>by
   have:=List.any_eq_false.1 X y hy
   simpa using this
  have Y:=zg2 (zG v I (λ_ _=>id)) I;clear J X a5 I v
  go_wp2_with fail
  go_ret;rw[d4.out];exact⟨⟨av,A,_,rfl,rfl,Y.out.1⟩,Y.out.2.mono zn⟩
 .rw[J];have e7:k<cs.length:=(List.getElem?_eq_some_iff.1 a7).1;have b6:=zh (DelI.start a7 b5 (zIO p cs k J));obtain⟨g,rfl,hg,hR⟩:=DRow.of v (by omega);have b7:=zh (hR.fr I (S:=No) id);have Z:Fr (Is g) w w1:=I.mono zn;have d5:((k:aa)==-1)=false:=by simp
  obtain⟨b8,e8,e9⟩:cs.length<=A/\(cs.length:aa)<=A/\A<=9223372036854775807:=⟨hR.nc,by have:=hR.nc;omega,by have:=hR.cm;unfold bm at this;omega⟩
  clear J a7 b5 v a5 I hR hD
  go_wp2_with fail
  go_loopw [5,6] (λiv jv wr=>∃ (i j:a1) (m:B Dev),iv=ad ac i/\jv=ad ac j/\i<j/\j<=cs.length/\aj (DelI p cs m i j)/\aj (DRow wr g A cs.length m)/\Fr (Is g) w wr) (λ_ jv _=>cs.length-(az jv).toNat)
  case atStart=>exact⟨k,k+1,cs,rfl,by congr 1,by omega,by omega,b6.out,b7.out,Z⟩
  case round=>
   clear b7 b6 d5 Z;obtain⟨i,j,m,rfl,rfl,b9,g0,HD,HR,a8⟩:=hrel;by_cases d6:j<cs.length
   .have e0:(j:aa)<cs.length:=by omega
    obtain⟨x,hx⟩:∃ x,cs[j]?=ab x:=⟨cs[j],bt d6⟩
    obtain⟨c0,c1,c2,c3,c4,c5,c6,c7,c8,c9⟩:=HR.out.dev (HD.out.at hx);obtain⟨W2,a9,f2,b2⟩:=zy wr (ao x.vals 36);have U:=HR.out.fr f2 (S:=No) id;obtain⟨z0,z1,z2,z3,z4,z5,z6,z7,z8,z9⟩:=DevB.of b2;have O:=a8.step f2 zn;have u:=a6.out x (List.mem_of_getElem? hx) W2 (O.mono (λb _ h=>by unfold Is at h;rw[h];rfl));have Hx:=zh hx;have g1:g<(wr:a1):=by obtain⟨o,h1,_⟩:=HR.out.blk;exact zC h1
    have g2:i<m.length:=by rw[HD.out.len];omega
    unfold Dev.vals at a9 u
    go_upto_region 8 with(fail)
    rw[<-a9];clear a9 hx c0 c1 c2 c3 c4 c5 c6 c7 c8 c9;cases hp:p x
    .rw[hp]at u;have b0:=zh (HD.out.put Hx.out hp b9);clear hp
     go_upto_region 9 with(go_at_fn gf;refine u.mono ?_;rintro e w3 ⟨rfl,z⟩)
     have b1:=U.fr z id;obtain⟨o,k1,k2,k3⟩:=b1.blk;have a2:=b1.set (i:=i) (by omega) x k1;have a3:=Fr.setRow (S:=Is g) w3 g (ak o.toList (i*10) x.vals.toList).toArray rfl;have HF:=zg2 a2 ((O.step z zn).step a3 zi);have b3:=z.heap b2 id;have d7:(i:aa)<cs.length:=by omega
     have d0:i*10+x.vals.size<=o.size:=by rw[k2,show x.vals.size=10 from rfl];omega
     clear z0 z1 z2 z3 z4 z5 z6 z7 z8 z9 U b1 O z f2 b2 a2 a3 k2 k3;obtain⟨z0,z1,z2,z3,z4,z5,z6,z7,z8,z9⟩:=DevB.of b3
     go_wp2_with (refine zBc rfl 36 _ _ rfl g (i*10) x.vals rfl rfl 36 o k1 zC6 d0 (zAT x) ?_)
     go_roundw
     case rel=>exact⟨i+1,j+1,_,by congr 1,by congr 1,by omega,by omega,b0.out,HF.out.1,HF.out.2⟩
     case measure=>simp[az];omega
    .rw[hp]at u;have b0:=zh (HD.out.skip Hx.out hp);clear hp
     go_wp2_with (go_at_fn gf;refine u.mono ?_;rintro e w3 ⟨rfl,z⟩)
     have HF:=zg2 (U.fr z id) (O.step z zn);clear U O z z0 z1 z2 z3 z4 z5 z6 z7 z8 z9 f2 b2
     go_roundw
     case rel=>exact⟨i,j+1,m,rfl,by congr 1,by omega,by omega,b0.out,HF.out.1,HF.out.2⟩
     case measure=>simp[az];omega
   .obtain rfl:j=cs.length:=by omega
    obtain⟨o,k1,k2,k3⟩:=HR.out.blk;have d1:i<cs.length:=b9;have a4:∀ ty dl dc,dl=cs.length-i->(bq #[45] ty #[ae (ab ⟨g,i*10,ai⟩) dl dc]).run ah wr=.ok (.tuple #[]) (wr.setRow g (ak o.toList (i*10) (aw (bb Dev.zero.vals).cells (cs.length-i)).toList).toArray):=λty dl dc e=>by
     subst e;exact zFG wr ty g A cs.length i dc m o k1 (by omega) d1
    have d2:cs.take cs.length=cs:=ax (bv _);have b4:=HD.out.lo;have V:=HD.out.il;rw[d2]at b4 V;obtain⟨row,F⟩:∃ row,row=ak o.toList (i*10) (aw (bb Dev.zero.vals).cells (cs.length-i)).toList:=⟨_,rfl⟩
    rw[<-F]at a4;have R:aj ((wr.setRow g row.toArray).ownsRow N 36 10 (ae (ab ⟨g,0,ai⟩) i A) i (flat (cs.filter λx=>!p x))/\i=(cs.filter λx=>!p x).length/\Fr (Is g) w (wr.setRow g row.toArray)):=by
     have d8:=zGY (cs.length-i);have d3:o.toList.length=o.size:=bf;have b8:row.length=o.size:=by rw[F,length_splice _ _ _ (by rw[d8];omega),d3]
     have d9:row.take (i*10)=(flat m).take (i*10):=by
      rw[F,<-k3,cn,cp (by omega)];unfold ak;exact List.take_left' (by rw[bu];omega)
     refine⟨⟨by rw[zMJ,<-V],.inr ⟨g,A,row.toArray,rfl,hg,setRow_heap wr g o _ _ _ k1,by omega,by unfold bm;omega,by rw[ck,b8,k2],?_⟩⟩,V,a8.step (Fr.setRow (S:=Is g) wr g row.toArray rfl) zi⟩;rw[co,d9,(zD9 i m).1,b4]
    have g3:¬ A=i:=by omega
    have d7:i<=A:=by omega
    have e4:(i:aa)<=cs.length:=by omega
    clear F d2 b4 V k1 k2 k3 a8
    go_wp2_with (simp only[a4 _ _ _ rfl])
    go_ret;exact⟨⟨ab ⟨g,0,ai⟩,A,i,rfl,R.out.2.1,R.out.1⟩,R.out.2.2.mono (λb _ h=>by unfold Is at h;rw[h];rfl)⟩
end Go.Proofs.YtckkocmhlhefpaaGreatDoor
