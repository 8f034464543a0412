import Derived.Test.YtckkocmhlhefpaaGreatDoorQ14
import Derived.Lib.Join
import Derived.Test.YtckkocmhlhefpaaGreatDoorStrs3
import Derived.Lib.AtoiAllCases
import Derived.Lib.AppendIntMem
import Derived.Lib.TrimU
import Derived.Lib.OthersKept
import Derived.Laws.RangeString
import Derived.Laws.Runes
import Derived.Deep.LoopGhost
import Derived.WalkMore
namespace Go.Proofs.YtckkocmhlhefpaaGreatDoor
open Go Go.RowKit Go.Maps
set_option linter.unusedVariables false
set_option maxRecDepth 100000
set_option maxHeartbeats 2000000
open Ct renaming mk->ar,text->au,counts->be
open Fr renaming refl->am,of_below_size->c5
open Go renaming World->ah,Calls->ao,wp_scope_straight->cj
open Go.Ending renaming returned->c0
open Go.Exit renaming noGoto_ret->c4
open Go.IntKind renaming i64->ad
open Go.Lib renaming size_eq->an,itoa->aq,decodeN->av,indexByte->aw,indexAny->ay,join->az,decDigits->bm,extract_to_end->bn,hasPrefix->bo,contains_iff_indexByte->c6
open Go.Proofs.Tryz renaming prog->ae
open Go.RowKit renaming Hid->aa
open Go.Utf8 renaming decode->ak,encode->ap,valid->cg
open Go.Value renaming int->ac,string->ag,pointer->bb
open RetB renaming mk->bg
open _root_ renaming Int->C,Nat->G,List->B,ByteArray->f,UInt8->a0,if_neg->ab,if_pos->af,Bool->al,congrArg->ba,decide_eq_true_eq->bh,if_true->bi,decide_eq_false->ch,of_decide_eq_false->ci
open _root_.Array renaming getElem?_toList->bc,getElem?_eq_getElem->bj
open _root_.Bool renaming false->Q,true->a1,and_eq_true->ai,not_false->bd,eq_false_iff->bx,or_eq_true->bz
open _root_.List renaming dropWhile_cons->bp,length->bq,length_append->br,length_drop->bs,mem_cons->bt,not_mem_nil->bu,takeWhile_cons->bv,contains_iff_mem->c7,drop_drop->c8,getElem?_of_mem->c9,intercalate->ca,isEmpty_iff->cb,mem_of_getElem?->cc
open _root_.Nat renaming zero_le->ax,le_refl->bf,le_trans->cd
open _root_.Option renaming some->K,none->M,isSome_none->ce,isSome_some->cf
open _root_.UInt8 renaming ofNat->aj,toNat_ofNat'->bw
variable{o:al}{b:a0}{i s l:f}{k t e:C}{S:G->Prop}{w w':ah}{u:G}{r:B a0}
mutual
def Ct.walk : Ct->B Ct
 | .mk k i l s t e n=>.mk k i l s t e n::Ct.walks n
def Ct.walks : B Ct->B Ct
 | []=>[]
 | c::t=>c.walk++Ct.walks t
end
mutual
theorem zDJ: ∀ c:Ct,c.walk.length=c.count
 | .mk k i l s t e n=>by rw[Ct.walk,Ct.count,List.length_cons,zCM n]
theorem zCM : ∀ l:B Ct,(Ct.walks l).length=be l
 | []=>rfl
 | c::t=>by rw[Ct.walks,be,br,zDJ c,zCM t]
end
theorem zA2 : ∀ (l m:B Ct),Ct.walks (l++m)=Ct.walks l++Ct.walks m
 | [],m=>rfl
 | c::t,m=>by rw[List.cons_append,Ct.walks,Ct.walks,zA2 t m,List.append_assoc]
mutual
theorem zD7: ∀ c:Ct,c.good=c.walk.all alike
 | .mk k i l s t e n=>by rw[Ct.good,Ct.walk,List.all_cons,zEt n]
theorem zEt : ∀ l:B Ct,Ct.goods l=(Ct.walks l).all alike
 | []=>rfl
 | c::t=>by rw[Ct.goods,Ct.walks,List.all_append,zD7 c,zEt t]
end
def SmallC (m:G)(d:Ct):Prop:=d.id.size<=m/\d.label.size<=m
theorem SmallC.mono {m o:G}{d:Ct}(h:SmallC m d)(u:m<=o):SmallC o d:=⟨cd h.1 u,cd h.2 u⟩
theorem zHa (ends r:B a0):(upto ends r).length<=r.length:=by
 have h:=ba bq (zAU ends r);rw[br]at h;omega
theorem zJ7 : ∀ n:G,(∀ r c r',pC n r=K (c,r')->∀ d∈c.walk,SmallC r.length d)/\(∀ D r l r',pL n D r=K (l,r')->∀ d∈Ct.walks l,d∈Ct.walks D\/SmallC r.length d)
 | 0=>⟨λr c r' h=>by simp[pC]at h,λD r l r' h=>by simp[pL]at h⟩
 | n+1=>by
  obtain⟨Z,X⟩:=zJ7 n;have a2:=(zFN n).1;have F:∀ z (y:B Ct×B a0),pL n [] z=K y->∀ d∈Ct.walks y.1,SmallC z.length d:=λz y h d o=>by
   rcases X [] z y.1 y.2 h d o with h|h
   .simp[Ct.walks]at h
   .exact h
  refine⟨λr c r' h=>?_,λD r l r' h=>?_⟩
  .have hr:=zBx [58,44,41] r;rw[pC]at h;by_cases h0:upto [58,44,41] r=[]
   .rw[af h0]at h;injection h with h
    injection h with h1 h2
    subst h1;subst h2;intro d o;simp[Ct.zero,Ct.walk,Ct.walks]at o;subst o;exact⟨ax _,ax _⟩
   rw[ab h0]at h;obtain⟨J,N,h⟩:=Option.bind_eq_some_iff.1 h;have e2:=ze N;have a3:=zBx [58,40,44,41] J;have a4:=zHa [58,40,44,41] J;simp only at h;generalize upto [58,40,44,41] J=di at h a4;generalize past [58,40,44,41] J=r3 at h a3;split at h
   .obtain⟨Y,A,h⟩:=Option.bind_eq_some_iff.1 h;have e4:=ze A;have hl:=zBx [44,41] Y;injection h with h
    injection h with h1 h2
    subst h1;subst h2;have a7:=zHa [44,41] Y;intro d o;simp only[Ct.walk,Ct.walks,List.mem_singleton]at o;subst o;exact⟨by show di.toArray.size<=_;simp;omega,by show (upto [44,41] Y).toArray.size<=_;simp;omega⟩
   split at h
   .obtain⟨Y,A,h⟩:=Option.bind_eq_some_iff.1 h;obtain⟨p5,O,h⟩:=Option.bind_eq_some_iff.1 h;obtain⟨r6,R,h⟩:=Option.bind_eq_some_iff.1 h;obtain⟨p7,U,h⟩:=Option.bind_eq_some_iff.1 h;obtain⟨r8,a5,h⟩:=Option.bind_eq_some_iff.1 h;obtain⟨p9,a6,h⟩:=Option.bind_eq_some_iff.1 h;obtain⟨z,u,h⟩:=Option.bind_eq_some_iff.1 h;obtain⟨y,v,h⟩:=Option.bind_eq_some_iff.1 h;injection h with h
    injection h with h1 h2
    subst h1;subst h2;have e5:=zAe O;have e7:=zAe U;have e9:=zAe a6;have e4:=ze A;have e6:=ze R;have e8:=ze a5;have ea:=ze u;have V:=F z y v;intro d o;rw[Ct.walk]at o;rcases List.mem_cons.1 o with rfl|o
    .exact⟨by show di.toArray.size<=_;simp;omega,ax _⟩
    .exact(V d o).mono (by omega)
   split at h
   .obtain⟨z,u,h⟩:=Option.bind_eq_some_iff.1 h;obtain⟨y,v,h⟩:=Option.bind_eq_some_iff.1 h;injection h with h
    injection h with h1 h2
    subst h1;subst h2;have ea:=ze u;have V:=F z y v;intro d o;rw[Ct.walk]at o;rcases List.mem_cons.1 o with rfl|o
    .exact⟨by show di.toArray.size<=_;simp;omega,ax _⟩
    .exact(V d o).mono (by omega)
   split at h
   .obtain⟨Y,A,h⟩:=Option.bind_eq_some_iff.1 h;obtain⟨p5,O,h⟩:=Option.bind_eq_some_iff.1 h;obtain⟨r6,R,h⟩:=Option.bind_eq_some_iff.1 h;obtain⟨p7,U,h⟩:=Option.bind_eq_some_iff.1 h;obtain⟨z,u,h⟩:=Option.bind_eq_some_iff.1 h;obtain⟨y,v,h⟩:=Option.bind_eq_some_iff.1 h;injection h with h
    injection h with h1 h2
    subst h1;subst h2;have e5:=zAe O;have e7:=zAe U;have e4:=ze A;have e6:=ze R;have ea:=ze u;have V:=F z y v;intro d o;rw[Ct.walk]at o;rcases List.mem_cons.1 o with rfl|o
    .exact⟨by show di.toArray.size<=_;simp;omega,ax _⟩
    .exact(V d o).mono (by omega)
   split at h
   .obtain⟨z,u,h⟩:=Option.bind_eq_some_iff.1 h;obtain⟨y,v,h⟩:=Option.bind_eq_some_iff.1 h;injection h with h
    injection h with h1 h2
    subst h1;subst h2;have ea:=ze u;have V:=F z y v;intro d o;rw[Ct.walk]at o;rcases List.mem_cons.1 o with rfl|o
    .exact⟨by show di.toArray.size<=_;simp;omega,ax _⟩
    .exact(V d o).mono (by omega)
   .cases h
  .rw[pL]at h;obtain⟨p,hp,h⟩:=Option.bind_eq_some_iff.1 h;have e1:=Z r p.1 p.2 hp;cases hs:zW 41 p.2 with
   | some J=>
    rw[hs]at h;simp only at h;injection h with h
    injection h with h1 h2
    subst h1;subst h2;have e2:=ze hs;intro d o;rw[zA2]at o;rcases List.mem_append.1 o with o|o
    .exact .inl o
    .exact .inr (e1 d (by simpa [Ct.walks]using o))
   | none=>
    rw[hs]at h;simp only at h;obtain⟨J,N,h⟩:=Option.bind_eq_some_iff.1 h;have e2:=ze N;have e3:=a2 r p.1 p.2 hp;have e4:=zGe p.1;intro d o;rcases X _ J l r' h d o with I|I
    .rw[zA2]at I;rcases List.mem_append.1 I with I|I
     .exact .inl I
     .exact .inr (e1 d (by simpa [Ct.walks]using I))
    .exact .inr (I.mono (by omega))
mutual
theorem zD5: ∀ {c d:Ct},d∈c.walk->d.inner.length<=c.count
 | .mk k i l s t e n,d,h=>by
  rw[Ct.walk]at h;rw[Ct.count];rcases List.mem_cons.1 h with rfl|h
  .have:=zAa n;show n.length<=_
   omega
  .have:=zEs h;omega
theorem zEs : ∀ {n:B Ct} {d:Ct},d∈Ct.walks n->d.inner.length<=be n
 | [],d,h=>by simp[Ct.walks]at h
 | c::t,d,h=>by
  rw[Ct.walks]at h;rw[be];rcases List.mem_append.1 h with h|h
  .have:=zD5 h;omega
  .have:=zEs h;omega
end
theorem zAz (a b:f):bl (a++b)=bl a++bl b:=by simp[bl]
theorem zDG {a b:f}(h:bl a=bl b):a=b:=by
 rw[<-zOo a,<-zOo b,h]
def Ct.txt (c:Ct):f:=⟨c.text.toArray⟩
theorem zB7 (c:Ct):bl c.txt=c.text:=zEV _
theorem zD2 : ∀ l:B (B a0),az l [44]=commas l
 | []=>rfl
 | [x]=>by simp[az,commas,ca]
 | x::y::t=>by
  have h:=zD2 (y::t);unfold az at *;rw[commas,<-h];simp[ca,List.intersperse]
theorem zC7 {x:B a0}:∀ {l:B (B a0)},x∈l->x.length<=(commas l).length
 | [],h=>by cases h
 | [y],h=>by simp at h;subst h;simp[commas]
 | y::z::t,h=>by
  rw[commas];rcases List.mem_cons.1 h with rfl|h
  .simp
  .have:=zC7 h;simp;omega
def inTxt (n:B Ct):f:=⟨(commas (n.map au)).toArray⟩
theorem zO0 (n:B Ct):bl (inTxt n)=commas (n.map au):=zEV _
theorem zKZ (n:B Ct):(⟨(az ((n.map Ct.txt).map (·.data.toList)) [44]).toArray⟩:f)=inTxt n:=by
 rw[zD2,List.map_map];have:(λc=>((λx:f=>x.data.toList)∘Ct.txt) c)=Ct.text:=funext λc=>zB7 c
 show (⟨(commas (n.map (λc=>((λx:f=>x.data.toList)∘Ct.txt) c))).toArray⟩:f)=_
 rw[this];rfl
theorem zOx (n:B Ct):(az ((n.map Ct.txt).map (·.data.toList)) [44]).length=(commas (n.map au)).length:=by
 have:=ba bl (zKZ n);rw[zEV,zO0]at this;rw[this]
theorem zBH (h:isId i=a1):i.size<=16:=by
 unfold isId at h;simp only[ai,bh]at h;exact h.1.2
theorem zC3 {c:Ct}(h:c.good=a1):alike c=a1/\c.inner.all Ct.good=true:=by
 rw[zKd,ai,zGW]at h;exact h
theorem zEQ {s:C}{n:B Ct}(h:alike (.mk k i l s t e n)=a1):i.size<=16/\l.size<=16:=by
 have o:∀ x:f,(bl x).isEmpty=a1->x.size<=16:=λx F=>by rw[zBZ F];decide
 rw[alike]at h;by_cases u:k=0
 .rw[af u]at h;simp only[ai]at h;exact⟨o _ h.1.1.1,o _ h.1.1.2⟩
 rw[ab u]at h;by_cases v:k=1
 .rw[af v]at h;simp only[ai,bz]at h;exact⟨zBH h.1.1.1,h.1.1.2.elim (o _) zBH⟩
 rw[ab v]at h;by_cases y:k=2
 .rw[af y]at h;simp only[ai]at h;exact⟨zBH h.1.1.1.1.1,o _ h.1.1.1.1.2⟩
 rw[ab y]at h;by_cases z:k=3
 .rw[af z]at h;simp only[ai]at h;exact⟨zBH h.1.1.1,o _ h.1.1.2⟩
 rw[ab z]at h;by_cases A:k=4
 .rw[af A]at h;simp only[ai]at h;exact⟨zBH h.1.1.1.1,o _ h.1.1.1.2⟩
 rw[ab A]at h;by_cases D:k=5
 .rw[af D]at h;simp only[ai]at h;exact⟨zBH h.1.1.1,o _ h.1.1.2⟩
 rw[ab D]at h;cases h
theorem zE5 {s:C}{n:B Ct}(h:alike (.mk k i l s t e n)=a1):((k=0\/k=1)/\n=[])\/(k=2/\1<=s/\s<=16/\1<=t/\t<=16/\1<=e/\e<=16)\/k=3\/(k=4/\1<=s/\s<=16/\1<=t/\t<=16)\/k=5:=by
 rw[alike]at h;by_cases o:k=0
 .rw[af o]at h;simp only[ai,cb]at h;exact .inl ⟨.inl o,h.2⟩
 rw[ab o]at h;by_cases u:k=1
 .rw[af u]at h;simp only[ai,cb]at h;exact .inl ⟨.inr u,h.2⟩
 rw[ab u]at h;by_cases v:k=2
 .rw[af v]at h;simp only[ai,zAP,bh]at h;exact .inr (.inl ⟨v,by omega⟩)
 rw[ab v]at h;by_cases y:k=3
 .rw[af y]at h;exact .inr (.inr (.inl y))
 rw[ab y]at h;by_cases z:k=4
 .rw[af z]at h;simp only[ai,zAP,bh]at h;exact .inr (.inr (.inr (.inl ⟨z,by omega⟩)))
 rw[ab z]at h;by_cases A:k=5
 .rw[af A]at h;exact .inr (.inr (.inr (.inr A)))
 rw[ab A]at h;cases h
theorem zOy {c:Ct}(h:c.good=a1):(commas (c.inner.map au)).length<=c.text.length:=by
 obtain⟨k,i,l,s,t,e,n⟩:=c;have o:=(zC3 h).1;show (commas (n.map au)).length<=_
 rcases zE5 o with⟨_,rfl⟩|⟨rfl,_⟩|rfl|⟨rfl,_⟩|rfl
 .simp[commas]
 .rw[zIm];simp;omega
 .rw[zLS];simp;omega
 .rw[zLR];simp;omega
 .rw[zJa];simp;omega
theorem zL8 (k:G):aq (k:C)=bm k:=by unfold aq;rw[ab (by omega)];simp
def numBA (k:G):f:=⟨(bm k).toArray⟩
theorem zCW {k:G}(h:1<=k)(o:k<=16):(numBA k).size<=2:=by
 show (bm k).toArray.size<=2
 rw[zGa k h o];split<;>simp
theorem zM1 (k:G):bl (numBA k)=aq (k:C):=by rw[zL8];exact zEV _
def boxed (n:B Ct):f:=⟨#[40]⟩++inTxt n++⟨#[41]⟩
theorem zDS (n:B Ct):bl (boxed n)=40::(commas (n.map au)++[41]):=by unfold boxed;rw[zAz,zAz,zO0];rfl
section
variable (i l:f)(s t e:C)(n:B Ct)(a b c:G)
theorem txt0: (ar 0 i l s t e n).txt=⟨#[]⟩:=zDG (by rw[zB7,zNJ])
theorem txt1: (ar 1 i l s t e n).txt=(⟨#[102,115,58]⟩:f)++i++⟨#[58]⟩++l:=zDG (by rw[zB7,zJb];simp only[zAz];simp[bl])
theorem txt2: (ar 2 i l a b c n).txt=(⟨#[114,97,105,100,58]⟩:f)++i++⟨#[58]⟩++numBA a++⟨#[47]⟩++numBA b++⟨#[47]⟩++numBA c++boxed n:=zDG (by rw[zB7,zIm];simp only[zAz,zM1,zDS];simp[bl])
theorem txt3: (ar 3 i l s t e n).txt=(⟨#[99,114,121,112,116,58]⟩:f)++i++boxed n:=zDG (by rw[zB7,zLS];simp only[zAz,zDS];simp[bl])
theorem txt4: (ar 4 i l a b e n).txt=(⟨#[112,118,58]⟩:f)++i++⟨#[58]⟩++numBA a++⟨#[47]⟩++numBA b++boxed n:=zDG (by rw[zB7,zLR];simp only[zAz,zM1,zDS];simp[bl])
theorem txt5: (ar 5 i l s t e n).txt=(⟨#[116,97,98,108,101,58]⟩:f)++i++boxed n:=zDG (by rw[zB7,zJa];simp only[zAz,zDS];simp[bl])
end
def Ascii (s:f):Prop:=∀ (j:G) b,s.data.toList[j]?=K b->b.toNat<128
theorem zM6 (w:ah):(zeroValue 366).run ae w=.ok (.agg (Array.replicate 256 (.bool Q))) w:=by kernel_rfl
theorem zKm (n v o u y:G)(h:128<=v):128<=(av n v o u y).1/\((av n v o u y).2=1\/((av n v o u y).2=2/\1<n/\128<=o)\/((av n v o u y).2=3/\2<n/\128<=o/\128<=u)\/((av n v o u y).2=4/\3<n/\128<=o/\128<=u/\128<=y)):=by
 unfold av;rw[ab (by omega)]
 repeat' split
 all_goals (refine⟨?_,?_⟩)
 all_goals first
  | exact .inl rfl
  | exact .inr (.inl ⟨rfl,by omega,by omega⟩)
  | exact .inr (.inr (.inl ⟨rfl,by omega,by omega,by omega⟩))
  | exact .inr (.inr (.inr ⟨rfl,by omega,by omega,by omega,by omega⟩))
  | (simp only;omega)
theorem zIG (s:f)(i:G)(x:a0)(h:s.data.toList[i]?=K x):s.get! i=x:=by
 have o:s.data[i]?=K x:=by rw[<-bc];exact h
 show s.data[i]! = x
 rw[getElem!_def,o]
theorem zIR (s:f)(o:G)(x:a0)(N:s.data.toList[o]?=K x)(z:128<=x.toNat):
  128<=(ak s o).1/\o+(ak s o).2<=s.size/\∀ j y,o<=j->j<o+(ak s o).2->s.data.toList[j]?=K y->128<=y.toNat:=by
 have A:s.data.toList.length=s.size:=(an s).symm;have V:o<s.size:=by rw[<-A];exact(List.getElem?_eq_some_iff.1 N).1
 have D:=zIG s o x N;rw[Lib.decode_at];have v:=zKm (s.size-o) (s.get! o).toNat (s.get! (o+1)).toNat (s.get! (o+2)).toNat (s.get! (o+3)).toNat (by rw[D];exact z);refine⟨v.1,?_,?_⟩
 .rcases v.2 with h|⟨h,_⟩|⟨h,_⟩|⟨h,_⟩<;>omega
 .intro j y X I R;have u:=zIG s j y R;rcases v.2 with h|⟨h,O,F⟩|⟨h,O,F,J⟩|⟨h,O,F,J,U⟩
  .rw[h]at I;obtain rfl:j=o:=by omega
   rw[<-u,D];exact z
  .rw[h]at I;rcases(by omega:j=o\/j=o+1)with rfl|rfl
   .rw[<-u,D];exact z
   .rw[<-u];exact F
  .rw[h]at I;rcases(by omega:j=o\/j=o+1\/j=o+2)with rfl|rfl|rfl
   .rw[<-u,D];exact z
   .rw[<-u];exact F
   .rw[<-u];exact J
  .rw[h]at I;rcases(by omega:j=o\/j=o+1\/j=o+2\/j=o+3)with rfl|rfl|rfl|rfl
   .rw[<-u,D];exact z
   .rw[<-u];exact F
   .rw[<-u];exact J
   .rw[<-u];exact U
theorem zMK (r:G)(h:128<=r):2<=(ap (r:C)).size/\(ap (r:C)).size<=4/\∀ (j:G) y,(ap (r:C)).data.toList[j]?=K y->128<=y.toNat:=by
 have z:∀ l:B a0,(∀ y∈l,128<=y.toNat)->∀ (j:G) y,(⟨l.toArray⟩:f).data.toList[j]?=K y->128<=y.toNat:=λl A j y o=>A y (by simpa using cc o)
 have u:∀ c:G,128<=c->c<=1114111->∀ e:f,e=(if c<0x80 then ⟨#[aj c]⟩else if c<0x800 then ⟨#[aj (0xC0+c / 64),aj (0x80+c % 64)]⟩
   else if c<0x10000 then ⟨#[aj (0xE0+c / 4096),aj (0x80+c / 64 % 64),aj (0x80+c % 64)]⟩
   else ⟨#[aj (0xF0+c / 262144),aj (0x80+c / 4096 % 64),aj (0x80+c / 64 % 64),aj (0x80+c % 64)]⟩)->2<=e.size/\e.size<=4/\∀ (j:G) y,e.data.toList[j]?=K y->128<=y.toNat:=by
  rintro c D F e rfl;rw[ab (by omega)];split
  .refine⟨by show 2<=2;decide,by show 2<=4;decide,z _ ?_⟩;intro y o;simp only[bt,bu,or_false]at o;rcases o with rfl|rfl<;>(simp only[bw];omega)
  split
  .refine⟨by show 2<=3;decide,by show 3<=4;decide,z _ ?_⟩;intro y o;simp only[bt,bu,or_false]at o;rcases o with rfl|rfl|rfl<;>(simp only[bw];omega)
  .refine⟨by show 2<=4;decide,by show 4<=4;decide,z _ ?_⟩;intro y o;simp only[bt,bu,or_false]at o;rcases o with rfl|rfl|rfl|rfl<;>(simp only[bw];omega)
 by_cases v:cg (r:C)=a1
 .refine u r h ?_ _ ?_
  .unfold cg at v;simp only[bz,ai,bh]at v;omega
  .unfold ap;rw[af v];simp only[Int.toNat_natCast]
 .refine u 0xFFFD (by decide) (by decide) _ ?_;unfold ap;rw[ab v];rfl
theorem zM7 (r:C)(w:ah)(h:0<=r):
  ao ae 317 #[ac .i32 r] w λe w'=>RetB e/\w'=w:=by
 go_enter Tryz.func317,Tryz.ntmps317
 by_cases o:r<55296
 .go_wp2;go_ret;exact⟨bg a1,rfl⟩
 .by_cases u:57343<r
  .by_cases v:r<=1114111
   .go_wp2;go_ret;exact⟨bg a1,rfl⟩
   .go_wp2;go_ret;exact⟨bg Q,rfl⟩
  .go_wp2;go_ret;exact⟨bg Q,rfl⟩
theorem zM3 (h:Ascii s){i:G}(o:i<s.size):(s[i]'o).toNat<128:=by
 refine h i _ ?_;rw[bc];exact bj (by simpa using o)
theorem zLB (h:Ascii s)(z:128<=b.toNat)(k:G):aw (s.extract k s.size).data.toList ((b.toNat:C)).toNat.toUInt8<0:=by
 have e:((b.toNat:C)).toNat.toUInt8=b:=by simp
 rw[e];have o:=c6 (s.extract k s.size).data.toList b;have v:(s.extract k s.size).data.toList.contains b=false:=by
  rw[bx];intro u;rw[c7,bn]at u;obtain⟨m,y⟩:=c9 (List.mem_of_mem_drop u);have:=h m b y;omega
 rw[v]at o;have:=ci o.symm;omega
theorem zGn (s:f)(r:G)(w:ah)(hs:s.size<=1000)(U:Ascii s)(h1:128<=r)(h2:r<=1114111):
  ao ae 286 #[ag s,ac .i32 (r:C)] w λe w'=>e=.returned (ac ad (-1))/\Fr No w w':=by
 have hm:s.size<=9223372036854775807:=by omega
 have n1:¬ (r:C)<128:=by omega
 have A:=zh U;clear U
 go_enter Tryz.func286,Tryz.ntmps286
 by_cases he:r=65533
 .subst he
  go_wp2_with fail
  go_loopg [5] s.size (λg _ wx=>∃ i:G,i+g=s.size/\wx=w.iter s i)
  case atStart=>exact⟨0,by omega,rfl⟩
  case round=>
   obtain⟨i,a2,rfl⟩:=hrel;cases gk with
   | zero=>
    obtain rfl:i=s.size:=by omega
    have D:=run_next_end (P:=ae) w s s.size;go_wp2;go_ret;exact⟨rfl,am _ _ |>.alloc _⟩
   | succ g=>
    have F:i<s.size:=by omega
    have o:=zM3 A.out F;have D:=λty=>run_next_ascii (P:=ae) w s i ty F o
    have I:¬ ((s[i]'F).toNat:C)=65533:=by omega
    go_wp2_with fail
    go_roundg g
    case measure=>omega
    case rel=>exact⟨i+1,by omega,rfl⟩
 have n2:¬ (r:C)=65533:=by omega
 have n3:(0:C)<=r:=by omega
 have u:=zMK r h1
 go_wp2_with fail
 refine(zM7 _ _ (by omega)).mono ?_;rintro e w1 ⟨⟨b,rfl⟩,rfl⟩;cases b with
 | false=>
  go_wp2_with fail
  go_ret;exact⟨rfl,am _ _⟩
 | true=>
  go_wp2_with fail
  refine cj ?_
  go_upto_region 2 with(fail)
  obtain⟨L,V⟩:∃ L,(ap (r:C)).size=L+1:=⟨(ap (r:C)).size-1,by omega⟩
  generalize ap (r:C)=E at *;obtain⟨e1,e2,X⟩:=u;have J:((E.size:G):C)=(L:C)+1:=by omega
  have HE:=zh X;have HL:=zh V;clear X V
  go_wp2_with fail
  go_loop [9] (λi=>i=ac ad (L:C)) (λ_=>0)
  case atStart=>rfl
  case round=>
   subst hrel;by_cases v:L<s.size
   .have Y:(L:C)<s.size:=by omega
    have hA:=zM3 A.out v;have h:L<E.size:=by omega
    have hB:128<=(E[L]'h).toNat:=HE.out L _ (by rw[bc];exact bj (by simpa using h));have N:aa (aw (s.extract (L+1) s.size).data.toList (((E[L]'h).toNat:C)).toNat.toUInt8<0):=zLB A.out hB _;have I:¬ ((s[L]'v).toNat:C)=((E[L]'h).toNat:C):=by omega
    clear J
    go_wp2_with fail
    refine cj ?_
    go_wp2_with fail
    refine zQ No [(0,Q),(1,Q),(2,Q),(3,Q),(4,Q),(5,Q),(6,Q)] (by kernel_rfl) (by kernel_rfl) (λw0 y=>?_)
    repeat (apply zT rfl rfl rfl;intro Z hK;go_big_quiet_op;go_big_quiet_on)
    refine zb ?_;have O:=zh y;clear y
    go_wp2_with fail
    refine zQ No [(0,Q),(1,Q),(2,Q),(3,Q),(4,Q),(5,Q),(6,Q),(7,a1),(8,Q)] (by kernel_rfl) (by kernel_rfl) (λw2 z=>?_)
    repeat (apply zT rfl rfl rfl;intro Z hK;go_big_quiet_op;go_big_quiet_on)
    apply zt;exact rfl
    go_wp2_with fail
    refine(Tryz.strings_IndexByte _ _ _).mono ?_;rintro e w3 ⟨rfl,rfl⟩;have hq:=N.out;generalize aw (s.extract (L+1) s.size).data.toList (((E[L]'h).toNat:C)).toNat.toUInt8=q at *
    go_wp2_with fail
    refine zq ?_
    repeat (apply zT rfl rfl rfl;intro Z hK;go_big_quiet_op;go_big_quiet_on)
    refine zb ?_;have R:=zh (O.out.step z zi);clear z
    go_wp2_with fail
    simp +zetaDelta only[c4,Exit.inBlock,Exit.then];go_ret;exact⟨rfl,R.out⟩
   .go_wp2_with fail
    try simp +zetaDelta only[c4]
    go_ret;exact⟨rfl,am _ _⟩
theorem zDI (s o:f)(w:ah)(h2:2<=o.size)(b3:o.size<=1000)(h8:s.size<=8)(Y:Ascii o):
  ao ae 260 #[ag s,ag o] w λe w'=>e=.returned (ac ad (ay s.data.toList o.data.toList))/\Fr No w w':=by
 have b8:o.toList.isEmpty=false:=by
  rw[ByteArray.toList_eq];cases h:o.data.toList with
  | nil=>have:=an o;rw[h,List.length_nil]at this;omega
  | cons _ _=>rfl
 have b9:¬ ((o.size:C)=1):=by omega
 have Z:decide ((8:C)<(s.size:C))=false:=ch (by omega);have d0:s.size<=9223372036854775807:=by omega
 have a2:=zh Y;clear Y
 go_enter Tryz.func260,Tryz.ntmps260
 go_wp2_with fail
 refine(Tryz.strings_shouldUseASCIISet _ _).mono ?_;rintro e z ⟨rfl,rfl⟩;rw[Z];clear Z
 go_wp2_with fail
 go_loopg [9,10] s.size (λg _ _ wx=>∃ i:G,i+g=s.size/\wx.heap[(z:G)]?=K (.stringIter s i)/\Fr No z wx/\aa (Lib.NoAny s.data.toList o.data.toList i))
 case atStart=>exact⟨0,by omega,World.iter_heap _ _ _,(am _ _).alloc _,Lib.NoAny.zero _ _⟩
 case round=>
  obtain⟨i,d1,u,v,HN⟩:=hrel;obtain⟨W,rfl⟩:∃ W,W=wr:=⟨_,rfl⟩
  cases gk with
  | zero=>
   obtain rfl:i=s.size:=by omega
   have a3:=λty=>Lib.run_next_end_at (P:=ae) W (z:G) s s.size ty u (by omega)
   have b4:=zh v;clear u v
   go_wp2_with fail
   go_ret;exact⟨by rw[Lib.indexAny_none (by rw[<-an];exact HN.out)];rfl,b4.out⟩
  | succ g=>
   have hi:i<s.size:=by omega
   have a3:=λty=>Lib.run_next_any_at (P:=ae) W (z:G) s i ty u hi
   obtain⟨x,hx⟩:∃ x:a0,s[i]'hi=x:=⟨_,rfl⟩
   have y:s.data.toList[i]?=K x:=by
    rw[<-hx,bc];exact bj (by simpa using hi)
   have b5:1<=(ak s i).2:=Lib.width_pos s i;have a4:(ak s i).1<=1114111:=Lib.rune_le s i;have A:x.toNat<128->ak s i=(x.toNat,1):=λh=>by rw[decode_ascii s i hi (by rw[hx];exact h),hx]
   have a5:128<=x.toNat->_:=λh=>zIR s i x y h
   have O:=Lib.iterAt_heap W (z:G) s i (i+(ak s i).2) u;have R:Fr No z (W.iterAt (z:G) s (i+(ak s i).2)):=c5 (Lib.below_iterAt (v.below (bf _) (λ_ _=>id)) (bf _) s _);have F:=zh A;have a6:=zh a5;have Hx:=zh y;have a7:aa (128<=x.toNat->Lib.NoAny s.data.toList o.data.toList (i+(ak s i).2)):=by
    intro h j b hj hb;by_cases b6:j<i
    .exact HN.out j b b6 hb
    .have h3:=(zIR s i x y h).2.2 j b (by omega) hj hb;rw[bx];intro I;rw[c7]at I;obtain⟨m,hm⟩:=c9 I;have:=a2.out m b hm;omega
   clear A a5 y hx u v;generalize ak s i=D at *;obtain⟨rn,wd⟩:=D;simp only at a3 b5 a4 O R F a6 a7;generalize W.iterAt (z:G) s (i+wd)=W2 at *;have a8:=zh O;have U:=zh R;clear O R;by_cases a9:x.toNat<128
   .have hD:=F.out a9;injection hD with hD1 hD2
    subst hD1;subst hD2;have J:=c6 o.data.toList x;have V:((x.toNat:C)).toNat.toUInt8=x:=by simp
    have N:=zh J;clear J
    go_wp2_with fail
    refine(Tryz.strings_IndexRune_ascii _ _ _ (by omega) (by omega)).mono ?_;rintro e w3 ⟨rfl,rfl⟩;rw[V];by_cases b0:0<=aw o.data.toList x
    .have I:o.data.toList.contains x=true:=by rw[N.out];exact decide_eq_true b0
     have Hc:=zh I;clear I;generalize aw o.data.toList x=q at *
     go_wp2_with fail
     go_ret;exact⟨by rw[Lib.indexAny_hit HN.out Hx.out Hc.out];rfl,U.out⟩
    .have I:o.data.toList.contains x=false:=by rw[N.out];exact ch b0
     have Hc:=zh I;clear I;generalize aw o.data.toList x=q at *
     go_wp2_with fail
     go_roundg g
     case measure=>omega
     case rel=>exact⟨i+1,by omega,a8.out,U.out,HN.out.succ Hx.out Hc.out⟩
   .have b1:128<=x.toNat:=by omega
    obtain⟨k1,k2,-⟩:=a6.out b1
    go_wp2_with fail
    refine(zGn o rn _ b3 a2.out k1 a4).mono ?_;rintro e w3 ⟨rfl,X⟩;have b2:=zh (X.heap a8.out id);have b7:=zh (U.out.step X zi);clear X
    go_wp2_with fail
    go_roundg (s.size-(i+wd))
    case measure=>omega
    case rel=>exact⟨i+wd,by omega,b2.out,b7.out,a7.out b1⟩
theorem zIg (s ends:f)(w:ah)(A:s.size<=1000000)(u:ends.size<=1000)(v:Ascii ends):
  ao ae 260 #[ag s,ag ends] w λe w'=>e=.returned (ac ad (ay s.data.toList ends.data.toList))/\Fr No w w':=by
 by_cases y:ends.size=0
 .exact(Tryz.strings_IndexAny_none s ends w y).mono λe w' ⟨h,o⟩=>⟨h,o▸am _ _⟩
 by_cases h:ends.size=1
 .exact(Tryz.strings_IndexAny_one s ends w h v).mono λe w' ⟨h,o⟩=>⟨h,o▸am _ _⟩
 by_cases z:s.size<=8
 .exact zDI s ends w (by omega) u z v
 .exact(Tryz.strings_IndexAny_long zM6 s ends w (by omega) (by omega) (by omega) (by omega) v).mono λe w' ⟨h,o⟩=>⟨h,o▸((am _ _).alloc _).alloc _⟩
structure Env (w:ah):Prop where
 len:∃ m,w.cell? ⟨0,0,M⟩=K (ac ad m)
 err:ErrV w
 tab:Lib.TabIs ae w "internal/strconv.uint64pow10" .u64 Lib.pow10Tab
 sz:9<=(w:G)
theorem zLU: Tryz.prog.globalNamed "internal/strconv.uint64pow10" = K 6:=by kernel_rfl
theorem Env.fr (h:Env w)(o:Fr S w w')(u:∀ b,b<9->¬ S b):Env w':=by
 obtain⟨m,v⟩:=h.len;have D:=h.sz;have y:=o.size;refine⟨⟨m,o.cell v (u _ (by decide))⟩,h.err.fr o (u _ (by decide)) (u _ (by decide)),?_,by omega⟩;have z:=h.tab;have A:=o.block 6 (by omega) (u _ (by decide));have e:w'.var? ae "internal/strconv.uint64pow10" = w.var? ae "internal/strconv.uint64pow10" := by
  unfold World.var?;rw[zLU];simp only[Option.bind_some,A]
 unfold Lib.TabIs at *;rw[e];exact z
theorem Env.no (h:Env w)(o:Fr No w w'):Env w':=h.fr o (λ_ _=>id)
structure Cur (w:ah)(pb:G)(s:f)(r:B a0)(bad:al):Prop where
 blk:∃ at_:G,w.heap[pb]?=K (.cells #[ag s,ac ad (at_:C),.bool bad] 319 (0,0))/\at_<=s.size/\s.data.toList.drop at_=r
theorem Cur.fr (h:Cur w u s r o)(v:Fr S w w')(y:¬ S u):Cur w' u s r o:=by
 obtain⟨a,z,A,D⟩:=h.blk;exact⟨a,v.heap z y,A,D⟩
theorem Cur.no (h:Cur w u s r o)(v:Fr No w w'):Cur w' u s r o:=h.fr v id
theorem Cur.lt (h:Cur w u s r o):u<(w:G):=by
 obtain⟨a,v,y,z⟩:=h.blk;exact zC v
theorem Cur.le (h:Cur w u s r o):r.length<=s.size:=by
 obtain⟨a,v,y,rfl⟩:=h.blk;have:s.data.toList.length=s.size:=(an s).symm;simp only[bs];omega
theorem zId (ends:B a0):∀ r:B a0,(ay r ends=-1/\upto ends r=r/\past ends r=[])\/∃ k:G,ay r ends=(k:C)/\k<r.length/\upto ends r=r.take k/\past ends r=r.drop k
 | []=>.inl ⟨rfl,rfl,rfl⟩
 | b::l=>by
  rw[ay];by_cases h:ends.contains b=a1
  .rw[af h];refine .inr ⟨0,rfl,by simp,?_,?_⟩
   .simp only[upto,bv,h];simp
   .simp only[past,bp,h];simp
  .have u:ends.contains b=false:=by simpa using h
   rw[ab h];rcases zId ends l with⟨v,y,o⟩|⟨k,v,y,o,z⟩
   .rw[v];refine .inl ⟨rfl,?_,?_⟩
    .simp only[upto,bv,u,bd,bi]at y ⊢;rw[y]
    .simp only[past,bp,u,bd,bi]at o ⊢;rw[o]
   .rw[v];refine .inr ⟨k+1,?_,by simp;omega,?_,?_⟩
    .rw[ab (by simp)];rfl
    .simp only[upto,bv,u,bd,bi]at o ⊢;rw[o];rfl
    .simp only[past,bp,u,bd,bi]at z ⊢;rw[z];rfl
theorem zFn (o:G)(s ends:f)(r:B a0)(A:al)(w:ah)(hc:Cur w o s r A)(he:Ascii ends)(hs:s.size<=1000000)(a7:ends.size<=1000):
  ao ae 270 #[bb (K ⟨o,0,M⟩),ag ends] w λe w'=>e=.returned (ag ⟨(upto ends.data.toList r).toArray⟩)/\Cur w' o s (past ends.data.toList r) A/\Fr (Is o) w w':=by
 obtain⟨a,hb,a8,hr⟩:=hc.blk;have a5:(a:C)<=s.size:=by omega
 have a9:s.data.toList.length=s.size:=(an s).symm;have I:(s.extract a s.size).data.toList=r:=by rw[bn];exact hr
 obtain⟨h,hq⟩:∃ h,h=s.extract a s.size:=⟨_,rfl⟩
 have O:h.data.toList=r:=by rw[hq];exact I
 have b0:h.size<=1000000:=by
  have D:h.data.toList.length=h.size:=(an h).symm;have Y:=hc.le;rw[O]at D;omega
 have Z:=zId ends.data.toList r;have b1:=zh hq;have F:=zh O;have Hr:=zh hr;clear I hq O hr
 go_enter Tryz.func270,Tryz.ntmps270
 go_wp2_with fail
 refine zQ No [(0,Q),(1,Q),(2,Q),(3,Q),(4,Q),(5,Q),(6,Q),(7,Q),(8,Q),(9,Q)] (by kernel_rfl) (by kernel_rfl) (λw0 R=>?_);have U:=R.heap hb id;have g0:∀ g:Gr No w0,g.W.cell? ⟨o,0,M⟩=K (ag s):=λg=>g.fr.cell (zB U 0) id
 have g1:∀ g:Gr No w0,g.W.cell? ⟨o,1,M⟩=K (ac ad (a:C)):=λg=>g.fr.cell (zB U 1) id
 repeat (apply zT rfl rfl rfl;intro b5 hK;go_big_quiet_op;go_big_quiet_on)
 refine zb ?_;clear g0 g1;rw[<-b1.out];have J:Fr No w w0:=R
 go_wp2_with fail
 refine(zIg h ends _ (by omega) (by omega) he).mono ?_;rintro e w1 ⟨rfl,N⟩;have y:Fr No w w1:=J.step N zi;have v:=y.heap hb id;have c1:w1.cell? ⟨o,1,M⟩=K (ac ad (a:C)):=zB v 1;have z1:w1.frozen? ⟨o,1,M⟩=false:=zD v 1;have a2:h.data.toList.length=h.size:=(an h).symm;have V:r.length=h.size:=by rw[<-F.out];exact a2
 have b2:a+h.size=s.size:=by
  have D:=ba bq Hr.out;rw[bs]at D;omega
 rw[F.out];have a3:∀ k:G,k<=h.size->aa (h.extract 0 k=⟨(r.take k).toArray⟩/\∀ W,Fr No w W->W.heap[o]?=K (.cells #[ag s,ac ad (a:C),.bool A] 319 (0,0))->Cur (W.setCell ⟨o,1,M⟩ (ac ad ((a:C)+k))) o s (r.drop k) A/\Fr (Is o) w (W.setCell ⟨o,1,M⟩ (ac ad ((a:C)+k)))):=by
  intro k hk;refine⟨?_,λW hW a4=>⟨⟨a+k,?_,by omega,?_⟩,?_⟩⟩
  .apply ByteArray.ext;apply Array.ext';rw[Lib.extract_from_zero,F.out]
  .rw[zE a4];rfl
  .rw[<-Hr.out,c8]
  .exact(hW.mono (T:=Is o) zn).setAt _
 have u:=zh a3;clear N J R U a2 a3;rcases Z with⟨D,Y,h3⟩|⟨k,D,Y,h3,h4⟩
 .rw[D];have a6:((h.size:G):C)<=h.size:=Int.le_refl _;have Hk:=zh ((u.out h.size (bf _)).out);have He:aa (h=⟨(upto ends.data.toList r).toArray⟩/\r.drop h.size=past ends.data.toList r):=by
   unfold aa;refine⟨?_,by rw[h3,<-V,List.drop_length]⟩;rw[Y,<-F.out]
  have z:=zg2 y v;clear D Y h3 y v u V
  go_wp2_with fail
  go_ret;have X:=Hk.out.2 w1 z.out.1 z.out.2;rw[He.out.2]at X;exact⟨by show c0 (ag h)=_;rw[<-He.out.1],X.1,X.2⟩
 .rw[D];have b3:k<h.size:=by omega
  have b4:(k:C)<=h.size:=by omega
  have Hk:=zh ((u.out k (by omega)).out);have He:aa (h.extract 0 k=⟨(upto ends.data.toList r).toArray⟩/\r.drop k=past ends.data.toList r):=by
   unfold aa;rw[Hk.out.1,h3,h4];exact⟨rfl,rfl⟩
  have z:=zg2 y v;clear D Y h3 h4 y v u V
  go_wp2_with fail
  go_ret;have X:=Hk.out.2 w1 z.out.1 z.out.2;rw[He.out.2]at X;exact⟨by show c0 (ag (h.extract 0 k))=_;rw[He.out.1],X.1,X.2⟩
theorem zGz (b:a0)(r:B a0):bo r [b]=(zW b r).isSome:=by
 cases r with
 | nil=>rfl
 | cons x t=>
  simp only[bo,zW,List.isPrefixOf];by_cases h:x=b
  .subst h;simp
  .have o:(b==x)=false:=by simpa using λe=>h e.symm
   simp[h,o]
theorem zJm {t:B a0}(h:zW b r=K t):t=r.drop 1:=by rw[zl h];rfl
theorem zMz (o:G)(s:f)(b:a0)(r:B a0)(y:al)(w:ah)(F:Cur w o s r y)(hs:s.size<=1000000):
  ao ae 300 #[bb (K ⟨o,0,M⟩),ag ⟨#[b]⟩] w λe w'=>e=.returned (.bool (zW b r).isSome)/\Cur w' o s ((zW b r).getD r) y/\Fr (Is o) w w':=by
 obtain⟨a,Z,a2,I⟩:=F.blk;have R:(a:C)<=s.size:=by omega
 have a3:=F.le;have a4:s.data.toList.length=s.size:=(an s).symm;obtain⟨z,N⟩:∃ z,z=s.extract a s.size:=⟨_,rfl⟩
 have A:z.data.toList=r:=by rw[N,bn];exact I
 have v:bo z.data.toList (⟨#[b]⟩:f).data.toList=(zW b r).isSome:=by rw[A];exact zGz b r
 have U:r.length=s.size-a:=by rw[<-I,bs];omega
 have a5:=zh N;have Hr:=zh I;have D:=zh v;have Hc:=zh F;clear N A I v F
 go_enter Tryz.func300,Tryz.ntmps300
 go_wp2_with fail
 refine zQ No [(0,Q),(1,Q),(2,Q),(3,Q),(4,Q),(5,Q),(6,Q),(7,Q),(8,Q),(9,Q),(10,a1),(11,Q)] (by kernel_rfl) (by kernel_rfl) (λV u=>?_);have h:=u.heap Z id;have g0:∀ g:Gr No V,g.W.cell? ⟨o,0,M⟩=K (ag s):=λg=>g.fr.cell (zB h 0) id
 have g1:∀ g:Gr No V,g.W.cell? ⟨o,1,M⟩=K (ac ad (a:C)):=λg=>g.fr.cell (zB h 1) id
 repeat (apply zT rfl rfl rfl;intro X Y;go_big_quiet_op;go_big_quiet_on)
 clear g0 g1;rw[<-a5.out];apply zt;exact rfl
 go_wp2_with fail
 refine(Tryz.strings_HasPrefix z ⟨#[b]⟩ _).mono ?_;rintro e J ⟨rfl,rfl⟩;rw[D.out];have c1:J.cell? ⟨o,1,M⟩=K (ac ad (a:C)):=zB h 1;have z1:J.frozen? ⟨o,1,M⟩=false:=zD h 1;cases hk:zW b r with
 | none=>
  have H:=zg2 (Hc.out.no u) (u.mono (T:=Is o) zn);have O:=zh hk;clear hk h u;simp only[ce]
  go_wp2_with fail
  refine zq ?_
  repeat (apply zT rfl rfl rfl;intro X Y;go_big_quiet_op;go_big_quiet_on)
  refine zb ?_
  go_wp2_with fail
  go_ret;rw[O.out];exact⟨rfl,H.out.1,H.out.2⟩
 | some t=>
  have a6:1<=r.length:=by rw[zl hk];simp
  have H:aa (Cur (J.setCell ⟨o,1,M⟩ (ac ad ((a:C)+1))) o s t y/\Fr (Is o) w (J.setCell ⟨o,1,M⟩ (ac ad ((a:C)+1)))):=by
   refine⟨⟨a+1,?_,by omega,?_⟩,?_⟩
   .rw[zE h];rfl
   .rw[zJm hk,<-Hr.out,c8]
   .exact(u.mono (T:=Is o) zn).setAt _
  have O:=zh hk;clear hk h u;simp only[cf]
  go_wp2_with fail
  refine zq ?_
  repeat (apply zT rfl rfl rfl;intro X Y;go_big_quiet_op;go_big_quiet_on)
  refine zb ?_
  go_wp2_with fail
  go_ret;rw[O.out];exact⟨rfl,H.out.1,H.out.2⟩
theorem zCj (u:G)(s:f)(b:a0)(r:B a0)(o:al)(w:ah)(O:Cur w u s r o)(U:s.size<=1000000):
  ao ae 271 #[bb (K ⟨u,0,M⟩),ag ⟨#[b]⟩] w λe w'=>e=.returned (.tuple #[])/\Cur w' u s ((zW b r).getD r) (o||(zW b r).isNone)/\Fr (Is u) w w':=by
 go_enter Tryz.func271,Tryz.ntmps271
 go_wp2_with fail
 refine(zMz u s b r o _ O U).mono ?_;rintro e J ⟨rfl,z,A⟩;generalize D:(zW b r).getD r=r' at *;have F:=zh D;clear D;obtain⟨a,y,N,R⟩:=z.blk;have V:J.cell? ⟨u,2,M⟩=K (.bool o):=zB y 2;have X:J.frozen? ⟨u,2,M⟩=false:=zD y 2;have H:aa (∀ v:al,Cur (J.setCell ⟨u,2,M⟩ (.bool v)) u s r' v/\Fr (Is u) w (J.setCell ⟨u,2,M⟩ (.bool v))):=by
  intro v;refine⟨⟨a,?_,N,R⟩,A.setAt _⟩;rw[zE y];rfl
 clear y z A R O;cases hk:zW b r with
 | none=>
  have I:=zh hk;clear hk;simp only[ce]
  go_wp2_with fail
  go_end0
  rw[I.out];have h:=H.out a1;exact⟨rfl,by have e:=F.out;rw[I.out]at e;rw[e];show Cur _ u s r' (o||true);rw[Bool.or_true];exact h.1,h.2⟩
 | some t=>
  have I:=zh hk;clear hk;simp only[cf]
  go_wp2_with fail
  go_end0
  rw[I.out];have h:=H.out o;exact⟨rfl,by have e:=F.out;rw[I.out]at e;rw[e];show Cur _ u s r' (o||false);rw[Bool.or_false];exact h.1,h.2⟩
def NumIs (r r':B a0)(bad bad':al)(n:C):Prop:=(bad=a1->bad'=a1)/\(bad=Q->(pNum r=M/\bad'=a1)\/(pNum r=K (n,r')/\bad'=Q))
theorem zKD: Ascii ⟨#[47,40,44,41,58]⟩:=λj b o=>by
 have h:∀ x∈([47,40,44,41,58]:B a0),x.toNat<128:=by decide
 exact h b (cc o)
theorem zCk (o:G)(s:f)(r:B a0)(y:al)(w:ah)(hc:Cur w o s r y)(hs:s.size<=900)(hE:Env w)(h9:9<=o):
  ao ae 272 #[bb (K ⟨o,0,M⟩)] w λe w'=>∃ n r' O,e=.returned (ac ad n)/\r'.length<=r.length/\Cur w' o s r' O/\NumIs r r' y O n/\Fr (Is o) w w':=by
 go_enter Tryz.func272,Tryz.ntmps272
 go_wp2_with fail
 refine(zFn o s ⟨#[47,40,44,41,58]⟩ r y _ hc zKD (by omega) (by decide)).mono ?_;rintro e w1 ⟨rfl,U,V⟩;have a5:=zAU [47,40,44,41,58] r;have a6:pNum r=(match Lib.atoiAll (upto [47,40,44,41,58] r)with | .ok v=>if aq v=upto [47,40,44,41,58] r then K (v,past [47,40,44,41,58] r)else M|_=>M):=rfl;have e5:(⟨#[47,40,44,41,58]⟩:f).data.toList=[47,40,44,41,58]:=rfl;rw[e5]at U ⊢;generalize upto [47,40,44,41,58] r=dl at *;generalize past [47,40,44,41,58] r=r' at *;have b9:=hc.le;have a7:dl.length<=900/\r'.length<=r.length:=by
  have:=ba bq a5;rw[br]at this;omega
 obtain⟨A,X⟩:∃ A,A=(⟨dl.toArray⟩:f):=⟨_,rfl⟩
 rw[<-X];have Y:A.data.toList=dl:=by rw[X]
 have b5:A.size<=1000:=by
  have Z:A.data.toList.length=A.size:=(an A).symm;rw[Y]at Z;omega
 have a2:=hE.fr V (λb hb h=>by omega);have a8:=zh Y;have a9:=zh a6;have u:=zh a7.2;clear X a5 e5 hc Y a6 a7
 go_wp2_with fail
 refine(zIY A _ b5 a2.err).mono ?_;rintro e D ⟨hR,F⟩;unfold AtoiR at hR;rw[a8.out]at hR;have b0:=U.no F;have b6:=a2.no F;obtain⟨a,z,b7,hr⟩:=b0.blk;have R:=V.step F zn;have H:aa (∀ (W:ah) (v:al),Fr No D W->Cur (W.setCell ⟨o,2,M⟩ (.bool v)) o s r' v/\Fr (Is o) w (W.setCell ⟨o,2,M⟩ (.bool v))):=by
  intro W v hW;refine⟨⟨a,?_,b7,hr⟩,(R.step hW zn).setAt _⟩;rw[zE (hW.heap z id)];rfl
 have c2:D.cell? ⟨o,2,M⟩=K (.bool y):=zB z 2;have z2:D.frozen? ⟨o,2,M⟩=false:=zD z 2;have b8:=zh z;clear U b0 V F R a2 hr z;cases y with
 | true=>
  rcases hR with⟨v,I,rfl⟩|⟨I,k,te,N,rfl⟩
  all_goals
   clear I
   go_wp2_with fail
   go_ret;have h:=H.out D a1 (am _ _);exact⟨_,r',a1,rfl,u.out,h.1,⟨(λ_=>rfl),(λh=>by cases h)⟩,h.2⟩
 | false=>
  rcases hR with⟨v,I,rfl⟩|⟨I,k,te,N,rfl⟩
  .have b1:=Lib.atoiAll_bounds I;have Hn:aa (pNum r=if aq v=dl then K (v,r')else M):=by unfold aa;rw[a9.out,I]
   clear I
   go_wp2_with fail
   refine(Tryz.strconv_Itoa v b1.1 b1.2 _ b6.tab).mono ?_;rintro e w3 ⟨rfl,kk,os,rfl⟩;have J:Fr No D (Go.Sort.grow (D.drewN kk) os):=c5 (Lib.below_grow _ D (bf _) kk os);generalize Go.Sort.grow (D.drewN kk) os=w3 at *;have c3:w3.cell? ⟨o,2,M⟩=K (.bool Q):=J.cell c2 id;have z3:w3.frozen? ⟨o,2,M⟩=false:=zD (J.heap b8.out id) 2;obtain⟨it,a3⟩:∃ it,it=(⟨(aq v).toArray⟩:f):=⟨_,rfl⟩
   rw[<-a3];have b2:aa ((it.toList==A.toList)=decide (aq v=dl)):=by
    unfold aa;rw[a3,Bool.eq_iff_iff,beq_iff_eq,decide_eq_true_iff,ByteArray.toList_eq,ByteArray.toList_eq,a8.out]
   have b3:=zh J;clear a3 J c2 z2;rcases hie:(it.toList==A.toList)with _|_
   .have a4:aa (pNum r=M):=by
     unfold aa;have Z:=b2.out;rw[hie]at Z;rw[Hn.out,ab (ci Z.symm)]
    go_wp2_with fail
    go_ret;have h:=H.out w3 a1 b3.out;exact⟨_,r',a1,rfl,u.out,h.1,⟨λ_=>rfl,λ_=>.inl ⟨a4.out,rfl⟩⟩,h.2⟩
   .have b4:aa (pNum r=K (v,r')):=by
     unfold aa;have Z:=b2.out;rw[hie]at Z;rw[Hn.out,af (of_decide_eq_true Z.symm)]
    go_wp2_with fail
    go_ret;have h:=H.out w3 Q b3.out;exact⟨_,r',Q,rfl,u.out,h.1,⟨(λh=>by cases h),(λ_=>.inr ⟨b4.out,rfl⟩)⟩,h.2⟩
  .have a4:aa (pNum r=M):=by
    unfold aa;rw[a9.out];split
    .rename_i v e;exact absurd e (I v)
    .rfl
   clear I
   go_wp2_with fail
   go_ret;have h:=H.out D a1 (am _ _);exact⟨_,r',a1,rfl,u.out,h.1,⟨λ_=>rfl,λ_=>.inl ⟨a4.out,rfl⟩⟩,h.2⟩
end Go.Proofs.YtckkocmhlhefpaaGreatDoor
