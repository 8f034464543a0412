import Derived.Test.YtckkocmhlhefpaaGreatDoorQ12
import Derived.Test.YtckkocmhlhefpaaGreatDoorQ11
namespace Go.Proofs.YtckkocmhlhefpaaGreatDoor
open Go.RowKit Go.Maps Go.Sort Go.Shelf
set_option linter.unusedVariables false
set_option maxRecDepth 100000
set_option maxHeartbeats 8000000
open Eq renaming symm->bc
open Fr renaming refl->aq
open Go renaming World->ai,Addr->aj,Value->an,maxLen->ar,TypeId->ax,madeCells->bb,Operand->be,zeroValue->bm
open Go.Instr renaming lookup->az
open Go.Lit renaming int->bd
open Go.Op renaming lookup->bj
open Go.Oper renaming quietAt->bp,quietUpon->bq
open Go.Proofs.Tryz renaming prog->am,results113->br,underlying82->bs
open Go.Result renaming andThen->bf
open Go.RowKit renaming Hid->ak
open Go.Value renaming slice->af,string->ay
open Go.WideAt renaming sameKey_eq->bt
open Go.World renaming size_alloc->bu
open IntKind renaming i64->B
open Obj renaming cells->ac
open OnlyN renaming mk->bi
open Value renaming string->E,int->L,slice->ab,agg->ap
open Vir renaming vals->au
open _root_ renaming Nat->a0,ByteArray->aa,List->ae,Option->ag,Int->al,if_pos->ba,decide_eq_false->bv
open _root_.Bool renaming false->ah,true->ao
open _root_.ByteArray renaming empty->aw
open _root_.List renaming replicate->bg,getElem?_eq_none->bn
open _root_.Nat renaming le_trans->bh,le_refl->bo
open _root_.Option renaming some->K,none->a1
variable{w w' W:ai}{u P N n:a0}{h:ae Oper}{o:Oper}{a:Act}{Q:Exit->Act->ai->Prop}{S:ae Src}{y:Act->Prop}{D:DataW an}{f:ae UInt8->ae al}{b:aa×al->ag Mem}{cs:Array an}{T e:ax}{v:Vir}{g:aa×aa->ag an}{c:RC}{M:ae Vir}
theorem zAs {w:ai}{u:Array Oper}{h:ae Oper}{a:Act}{Q:Exit->Act->ai->Prop}(I:o.guard=a1)(m x:be)(t:ax)(z:o.op=bj t m x ah)
  (D F v:an) (J:a.eval m=D) (N:a.eval x=F) (y:(az t D F ah).run am w=.ok v w)
  (O:wpList am u Q h (a.put o.dst v) w):wpList am u Q (o::h) a w:=by
 refine wpList_plain I λR A=>?_
 unfold Oper.wp;simp[execOp,z,J,N,y,bf];exact A _ _ O
theorem zEX {w:ai}{u:Array Oper}{h:ae Oper}{a:Act}{Q:Exit->Act->ai->Prop}(N:o.guard=a1)(m x v:be)(t:ax)(z:o.op=Op.mapUpdate t m x v)
  (D F I:an) (O:a.eval m=D) (R:a.eval x=F) (U:a.eval v=I) {J:ai} (y:(Instr.mapUpdate t D F I).run am w=.ok () J)
  (V:wpList am u Q h (a.put o.dst undef) J):wpList am u Q (o::h) a w:=by
 refine wpList_plain N λX A=>?_
 unfold Oper.wp;simp[execOp,z,O,R,U,y,bf];exact A _ _ V
theorem zBv {S:ai->Prop}{y:Act->Prop}(N:o.guard=a1)(m x:be)(t:ax)(u:o.op=bj t m x ah)(z A v:an)(D:a.eval m=z)(F:a.eval x=A)
  (h:∀ W,S W->(az t z A ah).run am W=.ok v W) (I:y (a.put o.dst v)):o.quiet am a S y:=by
 refine⟨v,λW J=>?_,I⟩;unfold bp;simp[execOp,u,D,F,h W J,bf,bq]
theorem hfdM: ∀ (p i:aa) (r s t e:al) (a:ag aj) (n c:a0) (W:ai),(Instr.field 232 (ap #[E p,E i,L B r,L B s,L B t,L B e,ab a n c]) 0).run am W=.ok (E p) W:=by intros;kernel_rfl
theorem Fr.grownF (h:Fr (From (w:a0)) w w'):w.grownBy w' none:=⟨h.os,h.tape,h.output,h.size,λk o _=>h.block k o (by omega)⟩
def mapP (g:aa×al->ag Mem):aa×al->ag an:=λx=>(g x).map Mem.v
theorem zH7 (g:aa×al->ag Mem)(x:aa×al)(m:Mem):updP (mapP g) x m.v=mapP (λy=>if y=x then K m else g y):=by
 funext y
 unfold updP mapP;by_cases h:y=x<;>simp[h]
theorem zOw: (Tryz.prog.info? 3).map (λi=>(i.zero,i.size,i.bytes))=K (K (L B 0),1,8):=by kernel_rfl
structure Grp (D:DataW an)(left:Lit->Bool)(f:ae UInt8->ae al):Prop where
 mem:∀ (x:aa) (s:al),s∈f (kb x)↔(x.size<=ar/\(bd B s).wf=ao/\has D (plL (x,s))=ao/\left (plL (x,s))=ah)
 nodup:∀ x:aa,(f (kb x)).Nodup
theorem Grp.start (D:DataW an):Grp D (has D) (λ_=>[]):=by
 constructor
 .intro x s;simp only[List.not_mem_nil,false_iff];rintro ⟨_,_,o,h⟩;rw[o]at h;cases h
 .exact λ_=>List.nodup_nil
theorem Grp.step {o:Lit->Bool}(h:Grp D o f){x:aa}{s:al}(u:x.size<=ar)(v:(bd B s).wf=ao)(O:o (plL (x,s))=ao)(R:has D (plL (x,s))=ao):
  Grp D (λz=>o z&&!z.sameKey (plL (x,s))) (λz=>if z=kb x then f (kb x)++[s]else f z):=by
 constructor
 .intro y r;by_cases e:y=x
  .subst e;rw[ba rfl,List.mem_append,h.mem];by_cases A:r=s
   .subst A;rw[WideAt.sameKey_self (zHF _)];simp[u,v,R]
   .constructor
    .rintro (⟨a,b,c,d⟩|J)
     .exact⟨a,b,c,by rw[d];rfl⟩
     .simp at J;exact absurd J A
    .rintro ⟨a,b,c,d⟩;refine .inl ⟨a,b,c,?_⟩;cases hk:(plL (y,r)).sameKey (plL (y,s))with
     | true=>
      have:=zG3 a b u v (bt hk);simp at this;exact absurd this A
     | false=>rw[hk]at d;simpa using d
  .rw[if_neg (λF=>e (zGQ F)),h.mem];constructor
   .rintro ⟨a,b,c,d⟩;exact⟨a,b,c,by rw[d];rfl⟩
   .rintro ⟨a,b,c,d⟩;refine⟨a,b,c,?_⟩;cases hk:(plL (y,r)).sameKey (plL (x,s))with
    | true=>
     have:=zG3 a b u v (bt hk);simp at this;exact absurd this.1 e
    | false=>rw[hk]at d;simpa using d
 .intro y;by_cases e:y=x
  .subst e;rw[ba rfl];refine List.nodup_append.2 ⟨h.nodup y,by simp,λa U b V=>?_⟩;obtain rfl:b=s:=by simpa using V
   intro I;subst I;obtain⟨_,_,_,N⟩:=(h.mem y a).1 U;rw[O]at N;cases N
  .rw[if_neg (λF=>e (zGQ F))];exact h.nodup y
theorem zKc {o:Lit}{d:DataW an}(h:∀ zd,D.atKey o zd=d):has D o=true:=by
 cases hk:has D o with
 | true=>rfl
 | false=>
  have u:=h (.held (.bool ao));have v:=h (.held (.bool ah));rw[atKey_of_not_has hk]at u v;rw[<-v]at u;cases u
theorem Grp.slots {o:Lit->Bool}(h:Grp D o f)(A:∀ F,o F=ah){b:aa×al->ag Mem}
  (u:∀ x:aa×al,x.1.size<=ar->(bd B x.2).wf=ao->has D (plL x)=(mapP b x).isSome) (I:∀ x s m,b (x,s)=K m->x.size<=ar/\(bd B s).wf=ao) (x:aa):IsSlots b x (f (kb x)):=by
 refine⟨h.nodup x,λs=>?_⟩;rw[h.mem];constructor
 .rintro ⟨a,b',c,_⟩;rw[u (x,s) a b']at c
  simpa [mapP]using c
 .intro J;obtain⟨m,v⟩:=Option.isSome_iff_exists.1 J;obtain⟨y,z⟩:=I x s m v;exact⟨y,z,by rw[u (x,s) y z];simp[mapP,v],A _⟩
theorem IsIds2.of_slots {h:ae aa}(y:AscS (h.map kb))(z:∀ x:aa,x∈h↔f (kb x)≠[])(v:∀ x:aa,IsSlots b x (f (kb x))):IsIds2 b h:=by
 refine⟨y,λx=>?_⟩;rw[z];constructor
 .intro u;obtain⟨s,o⟩:=List.exists_mem_of_ne_nil _ u;exact⟨s,((v x).mem s).1 o⟩
 .rintro ⟨s,o⟩ e;have:=((v x).mem s).2 o;rw[e]at this;cases this
theorem set6 {b:a0}(h:W.heap[b]?=K (ac cs T))(J:cs.size=6)(u y z A D F:an):
  (((((((W.setCell ⟨b,0,a1⟩ u).setCell ⟨b,1,a1⟩ y).setCell ⟨b,2,a1⟩ z).setCell ⟨b,3,a1⟩ A).setCell ⟨b,4,a1⟩ D).setCell ⟨b,5,a1⟩ F)).heap[b]?=K (ac #[u,y,z,A,D,F] T)/\Fr (Is b) W ((((((W.setCell ⟨b,0,a1⟩ u).setCell ⟨b,1,a1⟩ y).setCell ⟨b,2,a1⟩ z).setCell ⟨b,3,a1⟩ A).setCell ⟨b,4,a1⟩ D).setCell ⟨b,5,a1⟩ F):=by
 have o:∀ {a w:ai} (h:Fr (Is b) a w) (i:a0) (v:an),Fr (Is b) a (w.setCell ⟨b,i,a1⟩ v):=λh i v=>h.setCell (p:=⟨b,i,a1⟩) (λ_=>rfl) v
 refine⟨?_,o (o (o (o (o (o (aq _ _) _ _) _ _) _ _) _ _) _ _) _ _⟩;obtain⟨l⟩:=cs
 match l,J with
 | [_,_,_,_,_,_],_=>
  have N:=zE h 0 u;have O:=zE N 1 y;have R:=zE O 2 z;have U:=zE R 3 A;have V:=zE U 4 D;have I:=zE V 5 F;simp only[List.setIfInBounds_toArray,List.set_cons_zero,List.set_cons_succ]at I;exact I
theorem zBG {o T:a0}(h:W.ownsRow o 9 1 (ab (K ⟨P,0,a1⟩) T T) T (bb (ay aw).cells (T*1)).toList):
  W.heap[P]?=K (ac ((bg T (⟨#[]⟩:aa)).map ay).toArray 9):=by
 obtain⟨_,⟨v,_⟩|⟨g,z,u,v,N,A,O,R,D,F⟩⟩:=h
 .cases v
 .cases v;rw[A];have I:u.toList=(bb (ay aw).cells (T*1)).toList:=by
   rw[<-F,List.take_of_length_le];rw[Array.length_toList,D];exact bo _
  have J:(bb (ay aw).cells (T*1)).toList=(bg T (⟨#[]⟩:aa)).map Value.string:=by
   apply List.ext_getElem?;intro i;by_cases y:i<T
   .rw[List.getElem?_map,List.getElem?_replicate,ba y];simp[bb,Value.cells,y,Nat.mod_one];rfl
   .rw[bn (by simp[bb];omega),bn (by simp;omega)]
  rw[show u=((bg T (⟨#[]⟩:aa)).map ay).toArray by rw[<-J,<-I]]
theorem zFC {l:ae aa}(h:W.heap[P]?=K (ac (l.map ay).toArray 9))(o:l.length<=ar):Strs W (K ⟨P,0,a1⟩) l.length l:=by
 refine⟨bo _,o,(λe=>by cases e),λv e _=>?_⟩;cases e;refine⟨rfl,zC h,λi x u=>?_⟩;rw[zB h];simp[u]
theorem QMap.blk {v:a0}(h:QMap w v g N):∃ u o,w.heap[v]?=K (.map u o):=by
 obtain⟨D,n,_,⟨u,o,h,_⟩,_⟩:=h;exact⟨u,o,h⟩
theorem QMap.ne_cells (h:QMap w u g N){b:a0}{y:a0×a0}(z:w.heap[b]?=K (ac cs T y)):b≠u:=by
 obtain⟨A,o,v⟩:=h.blk;intro e;subst e;rw[z]at v;cases v
theorem QMap.ne_own {z:a0}(h:QMap w z g N){o:a0}{v:an}{D:ae an}(F:w.ownsRow o e u v n D):¬ v.ownBlock=K z:=by
 intro A;obtain⟨_,⟨rfl,_⟩|⟨O,I,J,rfl,R,y,_⟩⟩:=F
 .cases A
 .cases A;exact h.ne_cells y rfl
theorem QMap.lookok (h:QMap w u g N){t:ax}{z:an}(I:(bm e).run am w=.ok z w)(J:Tryz.prog.underlying t=K (.map 99 e))
  {s:aa} {n:aa} (y:s.size<=ar) (A:n.size<=ar):(az t (.map (K u)) (ap #[E s,E n]) ao).run am w=.ok (.tuple #[(g (s,n)).getD z,.bool (g (s,n)).isSome]) w:=by
 obtain⟨D,m,_,O,R⟩:=h;obtain⟨F,U⟩:=R (s,n) y A;obtain⟨v,X,o,V⟩:=O.look_ok lawQ J I (zd:=.held z) (zp:=[]) rfl (keyQ y A);rw[o,F,zFc F U V]
theorem zAh {S:ai->Prop}{y:Act->Prop}(N:o.guard=a1)(m x:be)(t:ax)(u:o.op=bj t m x ao)(z A v:an)(D:a.eval m=z)(F:a.eval x=A)
  (h:∀ W,S W->(az t z A ao).run am W=.ok v W) (I:y (a.put o.dst v)):o.quiet am a S y:=by
 refine⟨v,λW J=>?_,I⟩;unfold bp;simp[execOp,u,D,F,h W J,bf,bq]
def zE7 : an:=ap #[E ⟨#[]⟩,E ⟨#[]⟩,E ⟨#[]⟩,L B 0]
theorem zDU (w:ai):(bm 97).run am w=.ok zE7 w:=by kernel_rfl
theorem zOR (w:ai):(bm 4).run am w=.ok (.bool ah) w:=by kernel_rfl
structure RS (c:RC)(w:ai)(sa:ag aj)(sc:a0)(ma:ag aj)(mc:a0)(S:ae Src)(M:ae Vir)(G:ae (aa×aa)):Prop where
 k:w.heap[c.xb]?=K (ac (rcs c.ka c.kn c.kc c.wt c.a c.n c.cap c.ca c.C.length c.cc c.ea c.en c.ec sa S.length sc c.wm c.sm ma M.length mc) 85)
 so:w.ownsRow c.b2 134 13 (ab sa S.length sc) S.length (sflat S)
 mo:w.ownsRow c.b0 97 4 (ab ma M.length mc) M.length (vflat M)
 cs:Srcs w c.ca c.cc c.C
 cb:∀ ad,c.ca=K ad->c.b0<=ad.block/\ad.block<c.b2/\BlkT w c.ca 134
 wmo:QMap w c.wm (wantG M) M.length
 smo:QMap w c.sm (seenG G) G.length
 ne:c.wm≠c.sm
 lo:c.b0<=c.xb/\c.b0<=c.wm/\c.b0<=c.sm/\c.b0<=c.b2/\c.xb<c.b2/\c.wm<c.b2/\c.sm<c.b2
 b2l:c.b2<=(w:a0)
theorem RSt.rs {D:ae (aa×aa)}(h:RSt c w S M D)(F:c.b2<=(w:a0)):∃ o u v y,RS c w o u v y S M D:=by
 obtain⟨⟨o,u,v,y,k,I,J⟩,cs,N,z,A,O,R⟩:=h;exact⟨o,u,v,y,k,I,J,cs,N,z,A,O,R,F⟩
theorem RS.fr {T:a0->Prop}{y:ag aj}{z:a0}{A:ag aj}{D:a0}{J:ae (aa×aa)}(h:RS c w y z A D S M J)(o:Fr T w w')
  (N:¬ T c.xb) (O:¬ T c.wm) (R:¬ T c.sm) (F:∀ b,(af y S.length z).ownBlock=K b->¬ T b) (I:∀ b,(af A M.length D).ownBlock=K b->¬ T b) (v:∀ u,c.ca=K u->¬ T u.block):RS c w' y z A D S M J:=
 ⟨o.heap h.k N,zG h.so o F,zG h.mo o I,h.cs.fr o (λu e _=>v u e),λu e=>⟨(h.cb u e).1,(h.cb u e).2.1,(h.cb u e).2.2.fr o v⟩,h.wmo.fr o O,h.smo.fr o R,h.ne,h.lo,bh h.b2l o.size⟩
theorem RS.no {o:ag aj}{v:ag aj}{y:a0}{z:ae (aa×aa)}(h:RS c w o u v y S M z)(A:Fr No w w'):RS c w' o u v y S M z:=
 h.fr A id id id (λ_ _=>id) (λ_ _=>id) (λ_ _=>id)
def inW (M:ae Vir)(q o:aa):Bool:=M.any λv=>decide ((v.q,v.o)=(q,o))
def zAE (M:ae Vir)(v:Vir):ae Vir:=if inW M v.q v.o=ao then M else M++[v]
def zr (M V:ae Vir):ae Vir:=V.foldl zAE M
theorem zFv (M V:ae Vir)(v:Vir):zr M (V++[v])=zAE (zr M V) v:=by unfold zr;rw[List.foldl_append];rfl
theorem zDZ (M:ae Vir)(v:Vir):(zAE M v).length<=M.length+1:=by unfold zAE;split<;>simp
theorem zAt : ∀ (V M:ae Vir),(zr M V).length<=M.length+V.length
 | [],M=>by simp[zr]
 | v::t,M=>by
  have h:=zAt t (zAE M v);have o:=zDZ M v;unfold zr at h ⊢;rw[List.foldl_cons,List.length_cons];omega
theorem zEd (M:ae Vir)(h o:aa):(wantG M (h,o)).isSome=inW M h o:=by
 unfold wantG inW;rw[Option.isSome_map,Bool.eq_iff_iff,List.find?_isSome,List.any_eq_true]
theorem zEe (h:inW M v.q v.o=ah):wantG (M++[v])=updQ (wantG M) (v.q,v.o) (ap v.vals):=by
 funext p
 unfold updQ wantG;rw[List.find?_append];by_cases y:p=(v.q,v.o)
 .subst y;rw[ba rfl];have:M.find? (λu=>decide ((u.q,u.o)=(v.q,v.o)))=none:=by
   rw[List.find?_eq_none];intro u z;unfold inW at h;have:=(List.any_eq_false.1 h) u z
   simpa using this
  rw[this];simp
 .rw[if_neg y];have:[v].find? (λu=>decide ((u.q,u.o)=p))=none:=by simp;exact λe=>y (bc e)
  rw[this];simp
theorem zBU {a:ag aj}{c b:a0}(h:(af a n c).ownBlock=K b):∃ o,a=K o/\o.block=b:=by
 cases a with
 | none=>cases h
 | some o=>exact⟨o,rfl,by injection h⟩
theorem zLv (a:ag aj)(n m c d:a0):(af a n c).ownBlock=(af a m d).ownBlock:=by cases a<;>rfl
theorem RS.grow {Y X:ai}{w6:ai}{Z:ag aj}{sc:a0}{ma:ag aj}{mc:a0}{a4:ae (aa×aa)}(h:RS c w6 Z sc ma mc S M a4)(N:Fr (Is c.wm) w6 Y){v:Vir}
  (hQ:QMap Y c.wm (updQ (wantG M) (v.q,v.o) (ap v.vals)) (M.length+1)) (a2:inW M v.q v.o=ah) {av:ag aj} {cv:a0} (O:Fr (λb=>b=c.xb\/(af ma M.length mc).ownBlock=K b) Y X)
  (k5:X.heap[c.xb]?=K (ac (rcs c.ka c.kn c.kc c.wt c.a c.n c.cap c.ca c.C.length c.cc c.ea c.en c.ec Z S.length sc c.wm c.sm av (M.length+1) cv) 85))
  (h5:X.ownsRow c.b0 97 4 (ab av (M.length+1) cv) (M.length+1) (vflat M++v.vals.toList)):RS c X Z sc av cv S (M++[v]) a4:=by
 have el:(M++[v]).length=M.length+1:=by simp
 have a3:∀ b,(af Z S.length sc).ownBlock=K b->¬ Is c.wm b:=λb R e=>by unfold Is at e;subst e;exact h.wmo.ne_own h.so R
 have A:=zG h.so N a3;have z:=zG h.mo N (λb R e=>by unfold Is at e;subst e;exact h.wmo.ne_own h.mo R);have I:=N.heap h.k (λe=>h.wmo.ne_cells h.k e);have V:∀ u,c.ca=K u->¬ Is c.wm u.block:=λu e y=>by
  obtain⟨cs,U⟩:=(h.cb u e).2.2 u e;exact h.wmo.ne_cells U y
 have D:∀ u,c.ca=K u->BlkT Y c.ca 134:=λu e=>(h.cb u e).2.2.fr N V
 have J:∀ u,c.ca=K u->¬ (u.block=c.xb\/(af ma M.length mc).ownBlock=K u.block):=λu e y=>by
  rcases y with y|y
  .obtain⟨cs,U⟩:=D u e u e;rw[y,I]at U;injection U with U
   injection U with _ e2
   exact absurd e2 (by decide)
  .exact BlkT.ne z (D u e) (by decide) u e y
 have F:=h.smo.fr N (λe=>h.ne (bc e));refine⟨by rw[el];exact k5,zG A O (λb R y=>?_),by rw[el,zBs];exact h5,(h.cs.fr N (λu e _=>V u e)).fr O (λu e _=>J u e),λu e=>⟨(h.cb u e).1,(h.cb u e).2.1,(D u e).fr O J⟩,?_,F.fr O (λy=>?_),h.ne,h.lo,bh h.b2l (bh N.size O.size)⟩
 .rcases y with y|y
  .subst y;exact zK A I (by decide) R
  .obtain⟨u,rfl,rfl⟩:=zBU R;exact BlkT.ne z (zAG A) (by decide) u rfl y
 .rw[el,zEe a2];exact hQ.fr O (λy=>by
   rcases y with y|y
   .exact hQ.ne_cells I (bc y)
   .exact hQ.ne_own z y)
 .rcases y with y|y
  .exact F.ne_cells I (bc y)
  .exact F.ne_own z y
def mustB (t e n:al)(ex xp:Bool):Bool:=decide (n=t)||(decide (e<=n)&&(ex||xp))
def mdT : aa:=⟨#[109,100,45]⟩
def mdOf (gi:aa)(ins:ae aa)(r:al):Vir:=⟨⟨#[]⟩,mdT++gi,ins.headD ⟨#[]⟩,r⟩
theorem set4 {b:a0}(h:W.heap[b]?=K (ac cs T))(D:cs.size=4)(o u y z:an):
  ((((W.setCell ⟨b,0,a1⟩ o).setCell ⟨b,1,a1⟩ u).setCell ⟨b,2,a1⟩ y).setCell ⟨b,3,a1⟩ z).heap[b]?=K (ac #[o,u,y,z] T)/\Fr (Is b) W ((((W.setCell ⟨b,0,a1⟩ o).setCell ⟨b,1,a1⟩ u).setCell ⟨b,2,a1⟩ y).setCell ⟨b,3,a1⟩ z):=by
 have A:∀ {a w:ai} (h:Fr (Is b) a w) (i:a0) (v:an),Fr (Is b) a (w.setCell ⟨b,i,a1⟩ v):=λh i v=>h.setCell (p:=⟨b,i,a1⟩) (λ_=>rfl) v
 refine⟨?_,A (A (A (A (aq _ _) _ _) _ _) _ _) _ _⟩;obtain⟨l⟩:=cs
 match l,D with
 | [_,_,_,_],_=>
  have F:=zE h 0 o;have I:=zE F 1 u;have J:=zE I 2 y;exact zE J 3 z
theorem zOK (v:aa)(t e n:al)(y:ag aj)(z A:a0)(D:ag aj)(F:a0)(o:ae aa)(w:ai):
  Calls am 162 #[ap #[E v,ab y z A,L B t,L B e,L B n,ab D o.length F]] w λU w'=>U=.returned (.bool (decide (n=t)))/\Fr No w w':=by
 have I:Fr No w (w.alloc (ac #[E v,ab y z A,L B t,L B e,L B n,ab D o.length F] 183)):=(aq _ _).alloc _;have J:=zF w (ac #[E v,ab y z A,L B t,L B e,L B n,ab D o.length F] 183);obtain⟨O,u⟩:∃ O,O=w.alloc (ac #[E v,ab y z A,L B t,L B e,L B n,ab D o.length F] 183):=⟨_,rfl⟩
 rw[<-u]at I J;obtain⟨X,Y,Z,y3,y4,y5⟩:=cl6 J;have R:=zh I;clear I J
 go_enter Tryz.func162,Tryz.ntmps162
 go_upto_region 1 with(fail)
 rw[<-u];clear u;by_cases h:n=t
 .have V:(n==t)=true:=by simpa using h
  have N:ak (decide (n=t)=ao):=decide_eq_true h;clear h
  go_wp2_with fail
  go_ret;exact⟨by rw[N.out];rfl,R.out⟩
 .have V:(n==t)=false:=by simpa using h
  have N:ak (decide (n=t)=ah):=bv h;clear h
  go_wp2_with fail
  go_ret;exact⟨by rw[N.out];rfl,R.out⟩
theorem zMe (v:aa)(t e n:al)(y:ag aj)(z A:a0)(D:ag aj)(F:a0)(o:ae aa)(w:ai):
  Calls am 163 #[ap #[E v,ab y z A,L B t,L B e,L B n,ab D o.length F]] w λU w'=>U=.returned (.bool (decide (e<=n)))/\Fr No w w':=by
 have I:Fr No w (w.alloc (ac #[E v,ab y z A,L B t,L B e,L B n,ab D o.length F] 183)):=(aq _ _).alloc _;have J:=zF w (ac #[E v,ab y z A,L B t,L B e,L B n,ab D o.length F] 183);obtain⟨O,u⟩:∃ O,O=w.alloc (ac #[E v,ab y z A,L B t,L B e,L B n,ab D o.length F] 183):=⟨_,rfl⟩
 rw[<-u]at I J;obtain⟨V,X,Y,Z,y4,y5⟩:=cl6 J;have R:=zh I;clear I J
 go_enter Tryz.func163,Tryz.ntmps163
 go_upto_region 1 with(fail)
 rw[<-u];clear u;by_cases h:e<=n
 .have N:ak (decide (e<=n)=ao):=decide_eq_true h
  go_wp2_with fail
  go_ret;exact⟨by rw[N.out];rfl,R.out⟩
 .have N:ak (decide (e<=n)=ah):=bv h
  go_wp2_with fail
  go_ret;exact⟨by rw[N.out];rfl,R.out⟩
theorem zM5 (o:aa)(t e n:al)(u:ag aj)(v y:a0)(z:ag aj)(A:a0)(h:ae aa)(N O:Bool)(w:ai):
  Calls am 110 #[ap #[E o,ab u v y,L B t,L B e,L B n,ab z h.length A],.bool N,.bool O] w λen w'=>en=.returned (.bool (mustB t e n N O))/\Fr No w w':=by
 have hx:Fr No w (w.alloc (ac #[E o,ab u v y,L B t,L B e,L B n,ab z h.length A] 183)):=(aq _ _).alloc _;have q0:=zF w (ac #[E o,ab u v y,L B t,L B e,L B n,ab z h.length A] 183);obtain⟨W0,D⟩:∃ W0,W0=w.alloc (ac #[E o,ab u v y,L B t,L B e,L B n,ab z h.length A] 183):=⟨_,rfl⟩
 rw[<-D]at hx q0;obtain⟨y0,y1,y2,y3,y4,y5⟩:=cl6 q0;have hw:=zOK o t e n u v y z A h W0;have U:∀ W:ai,Fr No W0 W->W.heap[(w:a0)]?=K (ac #[E o,ab u v y,L B t,L B e,L B n,ab z h.length A] 183):=λW hf=>hf.heap q0 id
 have a3:=zh U;have Hx:=zh hx;obtain⟨R,F⟩:∃ R,R=mustB t e n N O:=⟨_,rfl⟩
 rw[<-F];have V:=zh F;clear hx q0 U F
 go_enter Tryz.func110,Tryz.ntmps110
 go_upto_region 1 with(fail)
 rw[<-D];clear D
 go_wp2_with fail
 refine hw.mono ?_;rintro en w1 ⟨rfl,I⟩;clear y0 y1 y2 y3 y4 y5;have J:=a3.out w1 I;have y0:=zB J 0;have y1:=zB J 1;have y2:=zB J 2;have y3:=zB J 3;have y4:=zB J 4;have y5:=zB J 5;have X:=zh (Hx.out.step I zi);have he:=zMe o t e n u v y z A h w1;clear hw I J;cases h1:decide (n=t)with
 | true=>
  have Y:ak (R=ao):=by unfold ak;rw[V.out,mustB,h1];rfl
  clear h1 he
  go_wp2_with fail
  go_ret;exact⟨by rw[Y.out];rfl,X.out⟩
 | false=>
  have Hm:ak (R=(decide (e<=n)&&(N||O))):=by unfold ak;rw[V.out,mustB,h1];rfl
  clear h1
  go_wp2_with fail
  refine he.mono ?_;rintro en w2 ⟨rfl,Z⟩;have a2:=zh (X.out.step Z zi);clear he Z y0 y1 y2 y3 y4 y5;cases h2:decide (e<=n)with
  | false=>
   have Y:ak (R=ah):=by unfold ak;rw[Hm.out,h2];rfl
   clear h2
   go_wp2_with fail
   go_ret;exact⟨by rw[Y.out];rfl,a2.out⟩
  | true=>
   have Y:ak (R=(N||O)):=by unfold ak;rw[Hm.out,h2];rfl
   clear h2;cases N<;>cases O <;>
    (go_wp2_with fail
     go_ret;exact⟨by rw[Y.out];rfl,a2.out⟩)
theorem zO3 (u:aa)(t e n rd:al)(pa:ag aj)(pn pc:a0)(F:ag aj)(I:a0)(o:ae aa)(w:ai)(b6:u.size<=1000000)(hS:Strs w F I o):
  Calls am 113 #[ap #[E u,ab pa pn pc,L B t,L B e,L B n,ab F o.length I],L B rd] w λen w'=>en=.returned (ap (mdOf u o rd).vals)/\Fr No w w':=by
 have J:Fr No w ((w.alloc (ac #[E u,ab pa pn pc,L B t,L B e,L B n,ab F o.length I] 183)).alloc (ac #[E ⟨#[]⟩,E ⟨#[]⟩,E ⟨#[]⟩,L B 0] 97)):=((aq _ _).alloc _).alloc _;have q2:=zO w (ac #[E u,ab pa pn pc,L B t,L B e,L B n,ab F o.length I] 183) (ac #[E ⟨#[]⟩,E ⟨#[]⟩,E ⟨#[]⟩,L B 0] 97);have q4:=zR w (ac #[E u,ab pa pn pc,L B t,L B e,L B n,ab F o.length I] 183) (ac #[E ⟨#[]⟩,E ⟨#[]⟩,E ⟨#[]⟩,L B 0] 97);have a2:((w.alloc (ac #[E u,ab pa pn pc,L B t,L B e,L B n,ab F o.length I] 183)).alloc (ac #[E ⟨#[]⟩,E ⟨#[]⟩,E ⟨#[]⟩,L B 0] 97)).heap.size=(w:a0)+2:=by simp
 have b7:=hS.lenmax;have hz:¬ 9223372036854775807<3+u.size:=by omega
 have a3:ak (mdOf u o rd=⟨⟨#[]⟩,(⟨#[109,100,45]⟩:aa)++u,o.headD ⟨#[]⟩,rd⟩):=rfl;obtain⟨y,O⟩:∃ y,y=(w.alloc (ac #[E u,ab pa pn pc,L B t,L B e,L B n,ab F o.length I] 183)).alloc (ac #[E ⟨#[]⟩,E ⟨#[]⟩,E ⟨#[]⟩,L B 0] 97):=⟨_,rfl⟩
 rw[<-O]at J q2 q4 a2;have a4:=hS.no J (λ_=>id);have b4:(w:a0)+2<=(y:a0):=by omega
 have y0:y.cell? ⟨w,0,a1⟩=K (E u):=zB q2 0;clear a2
 go_enter Tryz.func113,Tryz.ntmps113
 go_upto_region 1 with(fail)
 rw[<-O];clear O;have z:Fr No y (y.alloc (ac #[E ⟨#[]⟩,E ((⟨#[109,100,45]⟩:aa)++u),E ⟨#[]⟩,L B rd] 97)):=(aq _ _).alloc _;have R:=zF y (ac #[E ⟨#[]⟩,E ((⟨#[109,100,45]⟩:aa)++u),E ⟨#[]⟩,L B rd] 97);have U:=z.heap q2 id;have A:=z.heap q4 id;have a7:=zC R;obtain⟨D,V⟩:∃ D,D=y.alloc (ac #[E ⟨#[]⟩,E ((⟨#[109,100,45]⟩:aa)++u),E ⟨#[]⟩,L B rd] 97):=⟨_,rfl⟩
 rw[<-V]at z R U A a7;have a5:=a4.no z (λ_=>id);have Hx:=zh (J.step z zi)
 go_upto_region 2 with(fail)
 rw[<-V];clear V y0 J z hS a4 q2 q4;have x5:D.cell? ⟨w,5,a1⟩=K (ab F o.length I):=zB U 5;rcases o with _|⟨c,ir⟩
 .have b8:D.cell? ⟨w,5,a1⟩=K (ab F 0 I):=x5;clear x5;obtain⟨u0,u1,u2,u3⟩:=cl4 R;obtain⟨b0,b1,b2,b3⟩:=cl4 A;obtain⟨f0,f1,f2,f3⟩:=fl4 A;have X:=set4 A rfl (E ⟨#[]⟩) (E ((⟨#[109,100,45]⟩:aa)++u)) (E ⟨#[]⟩) (L B rd);have HF:=zh (((Hx.out.mono (T:=From (w:a0)) zn).step X.2 (λb _ h=>by omega)).mono (T:=No) (λb hb h=>by omega));have N:=zh X.1;clear X
  go_wp2_with fail
  have y0:=zB N.out 0;have y1:=zB N.out 1;have y2:=zB N.out 2;have y3:=zB N.out 3;refine bodyPost_ret (v:=ap #[E ⟨#[]⟩,E ((⟨#[109,100,45]⟩:aa)++u),E ⟨#[]⟩,L B rd]) (by simp[results,br,go_sem,y0,y1,y2,y3]) rfl ?_;exact⟨by rw[a3.out];rfl,HF.out⟩
 .have b9:(0:al)<((c::ir).length:a0):=by first|(simp;done)|(simp;omega)
  obtain⟨b,d0,x,rfl,a6,hc⟩:=a5.at (k:=0) (by simp);obtain rfl:c=x:=by simpa using a6
  rw[Nat.add_zero]at hc;clear a6;have z2:D.cell? ⟨y,2,a1⟩=K (E ⟨#[]⟩):=zB R 2;have f2:D.frozen? ⟨y,2,a1⟩=false:=zD R 2;have Y:Fr (Is (y:a0)) D (D.setCell ⟨y,2,a1⟩ (E c)):=Fr.setCell (S:=Is (y:a0)) (p:=⟨y,2,a1⟩) (aq _ _) (λ_=>rfl) _;have a8:(D.setCell ⟨y,2,a1⟩ (E c)).heap[(y:a0)]?=K (ac #[E ⟨#[]⟩,E ((⟨#[109,100,45]⟩:aa)++u),E c,L B rd] 97):=zE R 2 (E c);have Z:=Y.heap A (λe=>by omega);have a9:=zh ((Hx.out.mono (T:=From (w:a0)) zn).step Y (λb _ h=>by omega));generalize b5:(c::ir).length=nl at *;clear Y R A U a5 Hx
  go_upto_region 4 with(fail)
  generalize D.setCell ⟨y,2,a1⟩ (E c)=Wb at *;clear z2 f2 x5 hc;obtain⟨u0,u1,u2,u3⟩:=cl4 a8;obtain⟨b0,b1,b2,b3⟩:=cl4 Z;obtain⟨f0,f1,f2,f3⟩:=fl4 Z;have X:=set4 Z rfl (E ⟨#[]⟩) (E ((⟨#[109,100,45]⟩:aa)++u)) (E c) (L B rd);have HF:=zh ((a9.out.step X.2 (λb _ h=>by omega)).mono (T:=No) (λb hb h=>by omega));have N:=zh X.1;clear X
  go_wp2_with fail
  have y0:=zB N.out 0;have y1:=zB N.out 1;have y2:=zB N.out 2;have y3:=zB N.out 3;refine bodyPost_ret (v:=ap #[E ⟨#[]⟩,E ((⟨#[109,100,45]⟩:aa)++u),E c,L B rd]) (by simp[results,br,go_sem,y0,y1,y2,y3]) rfl ?_;exact⟨by rw[a3.out];rfl,HF.out⟩
theorem zJT (M:ae Vir)(p:aa×aa):∃ v:Vir,(wantG M p).getD zE7=ap #[E v.q,E v.o,E v.c,L B v.r]:=by
 unfold wantG;cases hq:M.find? (λv=>decide ((v.q,v.o)=p))with
 | none=>exact⟨⟨⟨#[]⟩,⟨#[]⟩,⟨#[]⟩,0⟩,rfl⟩
 | some v=>exact⟨v,rfl⟩
theorem zBJ (c:RC)(sa:ag aj)(sc:a0)(ma:ag aj)(mc:a0)(S:ae Src)(M:ae Vir)(h6:ae (aa×aa))(va:ag aj)(vc:a0)(V:ae Vir)(w:ai)(h:RS c w sa sc ma mc S M h6)(hv:Virs w va vc V)
  (h8:∀ ad,va=K ad->V≠[]->ad.block≠c.xb/\ad.block≠c.wm/\¬ (af ma M.length mc).ownBlock=K ad.block) (e4:∀ v∈V,v.q.size<=ar/\v.o.size<=ar) (hM:M.length+V.length<=100000):
  Calls am 105 #[.pointer (K ⟨c.xb,0,a1⟩),ab va V.length vc] w λe w'=>e=.returned (.tuple #[])/\
   (∃ u z,RS c w' sa sc u z S (zr M V) h6/\(∀ b,(af u (zr M V).length z).ownBlock=K b->(af ma M.length mc).ownBlock=K b\/(w:a0)<=b))/\Fr (λb=>b=c.xb\/b=c.wm\/(af ma M.length mc).ownBlock=K b) w w':=by
 obtain⟨i0,h9,i1,i2,i3⟩:=info_parts infoV;have j7:=hv.lenmax;have j8:V.length<=100000:=by omega
 have Hh:=zh h;have i4:=zh e4;have e5:=zC h.k;have j9:=zh e5;clear h e4 e5
 go_enter Tryz.func105,Tryz.ntmps105
 go_wp2_with fail
 go_loopw [11] (λx wr=>∃ (j:a0) (A:ae Vir) (u:ag aj) (z:a0),j<=V.length/\x=L B (j:al)/\ak (A=zr M (V.take j))/\RS c wr sa sc u z S A h6/\(∀ b,(af u A.length z).ownBlock=K b->(af ma M.length mc).ownBlock=K b\/(w:a0)<=b)/\Fr (λb=>b=c.xb\/b=c.wm\/(af ma M.length mc).ownBlock=K b) w wr) (λx _=>V.length-(intOf x).toNat)
 case atStart=>exact⟨0,M,ma,mc,by omega,rfl,rfl,Hh.out,λb h=>.inl h,aq _ _⟩
 case round=>
  obtain⟨j,A,u,z,hj,rfl,d2,hR,Z,hf⟩:=hrel;by_cases i5:j<V.length
  .have e6:(j:al)<V.length:=by omega
   obtain⟨vb,j5,m,rfl,hm,⟨c0,c1,c2,c3⟩,k1⟩:=(hv.fr hf (λad e hn hs=>by
    obtain⟨h1,h2,h3⟩:=h8 ad e hn;rcases hs with hs|hs|hs
    .exact h1 hs
    .exact h2 hs
    .exact h3 hs)).elem i5
   have b4:=i4.out m (List.mem_of_getElem? hm);have HN:ak (zAE A m=zr M (V.take (j+1))):=by
    unfold ak;rw[List.take_add_one,hm,d2.out];exact(zFv _ _ _).symm
   have k2:A.length<=100000:=by
    have h1:=zAt (V.take j) M;rw[<-d2.out,List.length_take]at h1;omega
   obtain⟨W1,a3,e7,-,-⟩:=zw wr (ac m.vals 97) (ac #[E m.q,E m.o] 99);have d1:W1.heap[(wr:a0)]?=K (ac m.vals 97):=by rw[a3];exact((aq No _).alloc _).heap (zF _ _) id
   have p1:W1.heap[(wr:a0)+1]?=K (ac #[E m.q,E m.o] 99):=by
    rw[a3];have:=zF (wr.alloc (ac m.vals 97)) (ac #[E m.q,E m.o] 99)
    rwa [bu]at this
   have s1:(W1:a0)=(wr:a0)+2:=by rw[a3];simp
   have b5:=hR.no e7;have e8:=zh b5;have a6:=zh Z;have Hf:=zh (hf.step e7 zn);have k3:=zC hR.k;have k6:=hR.wmo.lt;have i6:∀ b,(af u A.length z).ownBlock=K b->b<(wr:a0):=λb R=>zY hR.mo R
   unfold au at a3;clear hm hR Z hf
   go_upto_region 4 with(fail)
   rw[<-a3];clear a3 c0 c1 c2 c3;obtain⟨y,hy⟩:=zJT A (m.q,m.o);have e9:=zEd A m.q m.o;refine zQ (From (W1:a0)) [(0,ah),(1,ah),(2,ah),(3,ah),(4,ah),(5,ah),(6,ah),(7,ah),(8,ah),(9,ao),(10,ao),(11,ah)] (by kernel_rfl) (by kernel_rfl) (λw0 U=>?_);have k0:=U.heap b5.k id;have q0:=b5.wmo.fr U id;have i7:=U.heap d1 id;have d4:=U.heap p1 id;have d6:∀ g:Gr (From (W1:a0)) w0,g.W.cell? ⟨c.xb,6,a1⟩=K (.map (K c.wm)):=λg=>zB (g.fr.heap k0 (by omega)) 6
   have g0:∀ g:Gr (From (W1:a0)) w0,g.W.cell? ⟨(wr:a0)+1,0,a1⟩=K (E m.q):=λg=>zB (g.fr.heap d4 (by omega)) 0
   have g1:∀ g:Gr (From (W1:a0)) w0,g.W.cell? ⟨(wr:a0)+1,1,a1⟩=K (E m.o):=λg=>zB (g.fr.heap d4 (by omega)) 1
   have g2:∀ W,(∃ g:Gr (From (W1:a0)) w0,W=g.W)->(az 82 (.map (K c.wm)) (ap #[E m.q,E m.o]) ao).run am W=.ok (.tuple #[ap #[E y.q,E y.o,E y.c,L B y.r],.bool (inW A m.q m.o)]) W:=λW hW=>by
    obtain⟨g,rfl⟩:=hW;have:=(q0.fr g.fr (by omega)).lookok (zDU g.W) bs b4.1 b4.2;rw[this,hy,e9]
   clear hy e9;have i8:=U.size;clear k0 q0 i7 d4;apply zT rfl rfl rfl;intro J N;go_big_quiet_op;go_big_quiet_on;apply zT rfl rfl rfl;intro J N;go_big_quiet_op;go_big_quiet_on;apply zT rfl rfl rfl;intro J N;go_big_quiet_op;go_big_quiet_on;apply zT rfl rfl rfl;intro J N;go_big_quiet_op;go_big_quiet_on;apply zT rfl rfl rfl;intro J N;go_big_quiet_op;go_big_quiet_on;apply zT rfl rfl rfl;intro J N;refine zAh rfl _ _ 82 rfl (.map (K c.wm)) (ap #[E m.q,E m.o]) _ rfl rfl g2 ?_
   go_frame
   go_big_quiet_on;clear g2;apply zT rfl rfl rfl;intro J N;go_big_quiet_op;go_big_quiet_on;apply zT rfl rfl rfl;intro J N;go_big_quiet_op;go_big_quiet_on;apply zT rfl rfl rfl;intro J N;go_big_quiet_op;go_big_quiet_on;apply zt;exact rfl;obtain⟨F,g3,g4,q3⟩:=zy w0 (ac #[E ⟨#[]⟩,E ⟨#[]⟩,E ⟨#[]⟩,L B 0] 97);clear d6 g0 g1
   go_wp2_with fail
   refine zp ?_;rw[<-g3];clear g3;apply zt;exact rfl;obtain⟨z0,z1,z2,z3⟩:=cl4 q3;obtain⟨f0,f1,f2,f3⟩:=fl4 q3;have h4:=zh (set4 q3 rfl (E y.q) (E y.o) (E y.c) (L B y.r));clear q3
   go_wp2_with fail
   refine bi ⟨h4.out.2.mono (λb _ h=>by omega),?_⟩;apply zT rfl rfl rfl;intro J N;go_big_quiet_op;go_big_quiet_on;refine zb ?_;have a4:=zh ((U.step g4 zi).step h4.out.2 (T:=Is (w0:a0)) (λb R h=>by omega));clear g4 h4 U z0 z1 z2 z3 f0 f1 f2 f3;generalize ((((F.setCell ⟨w0,0,a1⟩ (E y.q)).setCell ⟨w0,1,a1⟩ (E y.o)).setCell ⟨w0,2,a1⟩ (E y.c)).setCell ⟨w0,3,a1⟩ (L B y.r))=w5 at *;have R5:=zh (e8.out.no a4.out);have d5:=a4.out.heap d1 id;have p5:=a4.out.heap p1 id;have g5:=zh (Hf.out.step a4.out zn);have s5:=a4.out.size;clear d1 p1 b5 e8 a4 i8;rcases hin:inW A m.q m.o with _|_
   .have i9:ak (A++[m]=zr M (V.take (j+1))):=by unfold ak;rw[<-HN.out];unfold zAE;rw[if_neg (by rw[hin];decide)]
    have j0:=zh hin;clear hin;have g6:=R5.out
    go_upto_region 6 with(fail)
    refine zQ (Is c.wm) [(0,ah),(1,ah),(2,ah),(3,ah),(4,ah),(5,ah),(6,ao)] (by kernel_rfl) (by kernel_rfl) (λw6 a5=>?_);have D:=g6.no a5;have d6:=a5.heap d5 id;have p6:=a5.heap p5 id;have g7:=zh (g5.out.step a5 zn);have s6:=a5.size;have m6:∀ g:Gr (Is c.wm) w6,g.W.cell? ⟨c.xb,6,a1⟩=K (.map (K c.wm)):=λg=>zB (g.fr.heap D.k (λh=>D.wmo.ne_cells D.k h)) 6
    have g0:∀ g:Gr (Is c.wm) w6,g.W.cell? ⟨(wr:a0)+1,0,a1⟩=K (E m.q):=λg=>zB (g.fr.heap p6 (λh=>D.wmo.ne_cells p6 h)) 0
    have g1:∀ g:Gr (Is c.wm) w6,g.W.cell? ⟨(wr:a0)+1,1,a1⟩=K (E m.o):=λg=>zB (g.fr.heap p6 (λh=>D.wmo.ne_cells p6 h)) 1
    have e0:∀ g:Gr (Is c.wm) w6,g.W.cell? ⟨wr,0,a1⟩=K (E m.q):=λg=>zB (g.fr.heap d6 (λh=>D.wmo.ne_cells d6 h)) 0
    have e1:∀ g:Gr (Is c.wm) w6,g.W.cell? ⟨wr,1,a1⟩=K (E m.o):=λg=>zB (g.fr.heap d6 (λh=>D.wmo.ne_cells d6 h)) 1
    have e2:∀ g:Gr (Is c.wm) w6,g.W.cell? ⟨wr,2,a1⟩=K (E m.c):=λg=>zB (g.fr.heap d6 (λh=>D.wmo.ne_cells d6 h)) 2
    have e3:∀ g:Gr (Is c.wm) w6,g.W.cell? ⟨wr,3,a1⟩=K (L B m.r):=λg=>zB (g.fr.heap d6 (λh=>D.wmo.ne_cells d6 h)) 3
    apply zT rfl rfl rfl;intro J N;go_big_quiet_op;go_big_quiet_on;apply zT rfl rfl rfl;intro J N;go_big_quiet_op;go_big_quiet_on;apply zT rfl rfl rfl;intro J N;go_big_quiet_op;go_big_quiet_on;apply zT rfl rfl rfl;intro J N;go_big_quiet_op;go_big_quiet_on;apply zT rfl rfl rfl;intro J N;go_big_quiet_op;go_big_quiet_on;apply zT rfl rfl rfl;intro J N;go_big_quiet_op;go_big_quiet_on;clear m6 g0 g1 e0 e1 e2 e3;apply zt;exact rfl
    go_wp2_with (at_mapUpdate;refine zDX rfl _ _ _ 82 97 rfl bs c.wm _ A.length (by unfold ar;omega) m.q m.o b4.1 b4.2 (ap #[E m.q,E m.o,E m.c,L B m.r]) rfl D.wmo rfl rfl ?_;intro w7 g8 O)
    refine zf O ?_;refine zb ?_;have k7:=O.heap D.k (λh=>D.wmo.ne_cells D.k h);have g9:=zG D.mo O (λb R h=>by unfold Is at h;subst h;exact D.wmo.ne_own D.mo R);have d8:=O.heap d6 (λh=>D.wmo.ne_cells d6 h);have s7:=O.size;have j1:¬ (af u A.length z).ownBlock=K (wr:a0):=λh=>by have:=i6 _ h;omega
    have j6:c.b0<=(w7:a0):=by have:=D.lo.1;omega
    have a7:ak (∀ F:ai,Fr (λb=>b=c.xb\/(af u A.length z).ownBlock=K b) w7 F->∀ (X:ai) (av:ag aj) (cv:a0),X.heap[c.xb]?=K (ac (rcs c.ka c.kn c.kc c.wt c.a c.n c.cap c.ca c.C.length c.cc c.ea c.en c.ec sa S.length sc c.wm c.sm av (A.length+1) cv) 85)->
      X.ownsRow c.b0 97 4 (ab av (A.length+1) cv) (A.length+1) (vflat A++(au m).toList)->((af av (A.length+1) cv).ownBlock=(af u A.length z).ownBlock\/(af av (A.length+1) cv).ownBlock=K (F.alloc (ac (au m) 97)).heap.size)->
      Fr (λb=>b=c.xb\/(af u A.length z).ownBlock=K b) F X->RS c X sa sc av cv S (A++[m]) h6/\(∀ b,(af av (A++[m]).length cv).ownBlock=K b->(af ma M.length mc).ownBlock=K b\/(w:a0)<=b)/\Fr (λb=>b=c.xb\/b=c.wm\/(af ma M.length mc).ownBlock=K b) w X):=by
     unfold ak;intro F h3 X av cv hk hx a8 j2;have h7:=h3.step j2 zi;refine⟨D.grow O g8 j0.out h7 hk hx,λb R=>?_,?_⟩
     .rw[zLv av _ (A.length+1) cv cv]at R;rcases a8 with a8|a8
      .rw[a8]at R;exact a6.out b R
      .rw[a8]at R;injection R with R
       have h1:=h3.size;have h2:=g7.out.size;rw[bu]at R;exact .inr (by omega)
     .exact(g7.out.step O (λb R h=>.inr (.inl h))).step h7 (λb R h=>by
       rcases h with h|h
       .exact .inl h
       .rcases a6.out b h with h|h
        .exact .inr (.inr h)
        .omega)
    clear g8 O D g6 a5 d6 p6 d5 p5
    go_upto_region 7 with(fail)
    refine zZ (λb=>b=c.xb\/(af u A.length z).ownBlock=K b\/(w7:a0)<=b) (.q 0 (.q 1 (.q 2 (.q 3 (.q 5 (.m2 4 (.m1 6 (.m1 7 (.q 8 (.q 9 (.m1 10 .fin))))) 6 (.m1 4 (.m1 7 (.q 8 (.q 9 (.m1 10 .fin))))))))))) _ (by kernel_rfl) (by kernel_rfl) (λF a9=>?_) zj;have b6:=a9.heap k7 id;have Y:=zG g9 a9 (λ_ _=>id);have b8:=zK Y b6 (by decide);have d3:=a9.heap d8 id;have s3:=a9.size;have cB:∀ g:Gr (λb=>b=c.xb\/(af u A.length z).ownBlock=K b\/(w7:a0)<=b) F,g.W.heap[(wr:a0)]?=K (ac (au m) 97):=λg=>g.fr.heap d3 (λh=>by
     rcases h with h|h|h
     .omega
     .exact j1 h
     .omega)
    have e0:∀ g:Gr (λb=>b=c.xb\/(af u A.length z).ownBlock=K b\/(w7:a0)<=b) F,g.W.cell? ⟨wr,0,a1⟩=K (E m.q):=λg=>zB (cB g) 0
    have e1:∀ g:Gr (λb=>b=c.xb\/(af u A.length z).ownBlock=K b\/(w7:a0)<=b) F,g.W.cell? ⟨wr,1,a1⟩=K (E m.o):=λg=>zB (cB g) 1
    have e2:∀ g:Gr (λb=>b=c.xb\/(af u A.length z).ownBlock=K b\/(w7:a0)<=b) F,g.W.cell? ⟨wr,2,a1⟩=K (E m.c):=λg=>zB (cB g) 2
    have e3:∀ g:Gr (λb=>b=c.xb\/(af u A.length z).ownBlock=K b\/(w7:a0)<=b) F,g.W.cell? ⟨wr,3,a1⟩=K (L B m.r):=λg=>zB (cB g) 3
    clear cB d3
    repeat((first|apply zL rfl rfl rfl|apply zJ rfl rfl rfl);intro J N;go_big_quiet_op;go_big_quiet_on)
    clear e0 e1 e2 e3;have c3:F.cell? ⟨c.xb,8,a1⟩=K (ab u A.length z):=zB b6 8;refine zAA rfl rfl ?_ ?_
    focus
     go_wp2_with fail
     refine zq ?_;apply zH;exact rfl
     go_wp2_with fail
     refine zp ?_;clear c3
    rotate_left 1
    focus
     go_wp2_with fail
     refine zp ?_;apply zH;exact rfl;have c7:∀ o,(F.alloc o).cell? ⟨c.xb,8,a1⟩=K (ab u A.length z):=λo=>((aq No F).alloc o).cell c3 id
     clear c3
     go_wp2_with fail
     refine zq ?_;clear c7
    all_goals (
     apply zH;exact rfl
     go_wp2_with (at_builtin;refine wpList_append_own_at _ rfl _ _ 49 rfl c.b0 97 i0 (ap #[E aw,E aw,E aw,L B 0]) 4 56 Tryz.underlying49 h9 i1 i2 i3 rfl (by decide) _ _ _ rfl (Y.alloc _) ⟨F,0,a1⟩ 1 1 (au m).toList rfl rfl (zg _ (au m) _ rfl) (zCN _) (by unfold ar;omega) (by omega) (by first|omega|(simp;done)|(simp;omega)) ?_;intro v' w4 I a2 _ b9;obtain⟨b1,b2,rfl⟩:=zI I)
     have d7:Fr No F (F.alloc (ac (au m) 97)):=(aq _ _).alloc _;have b7:Fr (λb=>(af u A.length z).ownBlock=K b) (F.alloc (ac (au m) 97)) w4:=Fr.of_grown a2;have k4:=b7.heap (d7.heap b6 id) (λe=>b8 e);have c3:w4.cell? ⟨c.xb,8,a1⟩=K (ab u A.length z):=zB k4 8;have f3:w4.frozen? ⟨c.xb,8,a1⟩=false:=zD k4 8;have d0:=zK I k4 (by decide);refine bi ⟨b7.mono (λb _ h=>.inr (.inl h)),?_⟩
     repeat((first|apply zL rfl rfl rfl|apply zJ rfl rfl rfl);intro J N;go_big_quiet_op;go_big_quiet_on)
     apply zH;exact rfl;have f5:Fr (Is (c.xb)) w4 (w4.setCell ⟨c.xb,8,a1⟩ (ab b1 (A.length+1) b2)):=Fr.setAt (aq _ _) _;have k5:((w4.setCell ⟨c.xb,8,a1⟩ (ab b1 (A.length+1) b2))).heap[c.xb]?=K (ac (rcs c.ka c.kn c.kc c.wt c.a c.n c.cap c.ca c.C.length c.cc c.ea c.en c.ec sa S.length sc c.wm c.sm b1 (A.length+1) b2) 85):=zE k4 8 _;have b3:=zG I f5 (λb R h=>by unfold Is at h;subst h;exact d0 R);have h0:Fr (λb=>b=c.xb\/(af u A.length z).ownBlock=K b) F (w4.setCell ⟨c.xb,8,a1⟩ (ab b1 (A.length+1) b2)):=((d7.mono zn).step b7 (λb _ h=>.inr h)).step f5 (λb _ h=>.inl h);have HR:=zg3 k5 b3 h0;have j3:=zh b9;clear I a2 b7 k4 f5 k5 b3 h0 d0 d7 b9
     go_wp2_with fail
     refine bi ⟨Fr.setCell (aq _ _) (λ_=>.inl rfl) _,?_⟩;refine zV ?_;clear Y b6 b8;have h5:=a7.out _ (a9.mono zn) _ _ _ HR.out.1 HR.out.2.1 j3.out HR.out.2.2;have d9:=zh h5;clear h5 a7
     go_wp2_with fail
     go_roundw
     case rel=>exact⟨j+1,A++[m],b1,b2,by omega,by go_num,i9,d9.out.1,d9.out.2.1,d9.out.2.2⟩
     case measure=>simp[intOf];omega
     )
   .have j4:ak (A=zr M (V.take (j+1))):=by unfold ak;rw[<-HN.out];unfold zAE;rw[ba hin]
    clear hin
    go_wp2_with fail
    go_roundw
    case rel=>exact⟨j+1,A,u,z,by omega,by go_num,j4,R5.out,a6.out,g5.out⟩
    case measure=>simp[intOf];omega
  .obtain rfl:j=V.length:=by omega
   have e6:¬ (V.length:al)<V.length:=by omega
   have HE:ak (A=zr M V):=by unfold ak;rw[d2.out,List.take_length]
   have hr:=HE.out;have H:=zg3 hR Z hf;clear hR Z hf
   go_wp2_with fail
   go_end0
   rw[<-HE.out];exact⟨rfl,⟨u,z,H.out.1,H.out.2.1⟩,H.out.2.2⟩
end Go.Proofs.YtckkocmhlhefpaaGreatDoor
