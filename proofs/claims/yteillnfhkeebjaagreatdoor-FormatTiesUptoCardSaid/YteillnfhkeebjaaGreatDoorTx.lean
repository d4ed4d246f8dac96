/- Chapter 08: what is printed for a condition,or for steps,is read again as their cores (plain). -/
import Derived.Test.YteillnfhkeebjaaGreatDoorTf
import Derived.Test.YteillnfhkeebjaaGreatDoorTw
set_option linter.all false
namespace Go.Proofs.YteillnfhkeebjaaGreatDoor.Dx
open Go Go.RowKit Go.Proofs
set_option maxRecDepth 100000
set_option maxHeartbeats 4000000
theorem b7d:∀{l:List Cond} {x:Cond},x∈l->1+x.deep<=Cond.deepL l:=by
 intro l
 induction l with
 |nil=>intro x h;cases h
 | cons c l ih=>
   intro x h
   simp only[Cond.deepL]
   rcases List.mem_cons.1 h with rfl|h
   . omega
   . have:=ih h;omega
theorem a1N {c p:Cond}(h:p∈c.parts):1+p.deep<=c.deep:=by rw[Cond.deep_eq c];exact b7d h
theorem a5U (c:Cond):c.core.deep<=c.deep:=by
 cases ht:c.thin with
 |false=>rw[Cond.core_self ht];exact Nat.le_refl _
 | true=>
   obtain⟨hk,p,hp⟩:=Cond.thin_cases ht
   have hm:p∈c.parts:=by rw[hp];simp
   have hsz:=Cond.size_part hm
   rw[Cond.core_thin hk hp]
   have h1:=a5U p
   have h2:=a1N hm
   omega
termination_by SizeOf.sizeOf c
decreasing_by exact hsz
theorem a7C:∀{l:List Step} {x:Step},x∈l->1+x.deep<=Step.deepL l:=by
 intro l
 induction l with
 |nil=>intro x h;cases h
 | cons c l ih=>
   intro x h
   simp only[Step.deepL]
   rcases List.mem_cons.1 h with rfl|h
   . omega
   . have:=ih h;omega
theorem a7D:∀{l:List Step} {x:Step},x∈l->Step.dokL l=true->x.dok=true:=by
 intro l
 induction l with
 |nil=>intro x h;cases h
 | cons c l ih=>
   intro x h hd
   simp only[Step.dokL,Bool.and_eq_true] at hd
   rcases List.mem_cons.1 h with rfl|h
   . exact hd.1
   . exact ih h hd.2
def TL (c:Cond):Prop:=∃L:List BT,(∀r l,Brk r->Lx r l->Lx (v8 c++r) (L++l))/\∀d l,d+c.deep<=16->EvU d (L++l) c.cores l
def LL (m:Nat)(c:Cond):Prop:=∃L:List BT,(∀r l,Brk r->Lx r l->Lx (z6 c++r) (L++l))/\∀d l,d+c.deep<=m->A4 [97,110,100] l=false->EvJ d (L++l) c.cores l
def XL (m:Nat)(c:Cond):Prop:=∃L:List BT,(∀r l,Brk r->Lx r l->Lx (c.pt.2++r) (L++l))/\∀d l,d+c.deep<=m->A4 [97,110,100] l=false->A4 [111,114] l=false->EvC d (L++l) c.cores l
theorem LL.le {m n:Nat}{c:Cond}(h:LL m c)(hn:n<=m):LL n c:=by
 obtain⟨L,h1,h2⟩:=h
 exact⟨L,h1,λd l hd=>h2 d l (by omega)⟩
theorem XL.le {m n:Nat}{c:Cond}(h:XL m c)(hn:n<=m):XL n c:=by
 obtain⟨L,h1,h2⟩:=h
 exact⟨L,h1,λd l hd=>h2 d l (by omega)⟩
theorem a9r:∀ps:List Cond,(∀p∈ps,TL p)->∃L:List BT,(∀r l,Brk r->Lx r l->Brk (Lib.joinTail [32,97,110,100,32] (ps.map v8)++r)/\Lx (Lib.joinTail [32,97,110,100,32] (ps.map v8)++r) (L++l))/\
 ∀d l cs,(∀p∈ps,d+p.deep<=16)->A4 [97,110,100] l=false->a1q d cs (L++l) (mkC 2 (cs++ps.map Cond.cores)) l
 | [],_=>⟨[],λr l hb h=>⟨hb,h⟩,λd l cs _ ha=>by
    rw[List.map_nil,List.append_nil];exact a8W ha⟩
 | p ::ps,hp=>by
   obtain⟨L,h1,h2⟩:=a9r ps λx hx=>hp x (List.mem_cons_of_mem _ hx)
   obtain⟨l0,c1,c2⟩:=hp p (List.mem_cons_self ..)
   refine⟨(1,[97,110,100])::(l0++L),λr l hb h=>?_,λd l cs hd ha=>?_⟩
   . obtain⟨hb2,hx⟩:=h1 r l hb h
     have e:Lib.joinTail [32,97,110,100,32] ((p::ps).map v8)++r=[32,97,110,100,32]++(v8 p++(Lib.joinTail [32,97,110,100,32] (ps.map v8)++r)):=by
      simp only[Lib.joinTail,List.map_cons,List.flatten_cons,List.append_assoc]
     rw[e]
     refine⟨a1C,?_⟩
     have:=Lx.and_ (c1 _ _ hb2 hx)
     simpa only[List.append_assoc,List.cons_append] using this
   . have hc:=c2 d (L++l) (hd p (List.mem_cons_self ..))
     have hj:=h2 d l (cs++[p.cores]) (λx hx=>hd x (List.mem_cons_of_mem _ hx)) ha
     have:=b4K hc hj
     simpa only[List.append_assoc,List.cons_append,List.nil_append,List.map_cons] using this
theorem b2q:∀ps:List Cond,(∀p∈ps,LL 16 p)->∃L:List BT,(∀r l,Brk r->Lx r l->Brk (Lib.joinTail [32,111,114,32] (ps.map z6)++r)/\Lx (Lib.joinTail [32,111,114,32] (ps.map z6)++r) (L++l))/\
 (∀d l cs,(∀p∈ps,d+p.deep<=16)->A4 [97,110,100] l=false->A4 [111,114] l=false->a1p d cs (L++l) (mkC 3 (cs++ps.map Cond.cores)) l)/\∀l,A4 [97,110,100] l=false->A4 [97,110,100] (L++l)=false
 | [],_=>⟨[],λr l hb h=>⟨hb,h⟩,λd l cs _ _ ho=>by
    rw[List.map_nil,List.append_nil];exact a8L ho,λl h=>h⟩
 | p ::ps,hp=>by
   obtain⟨L,h1,h2,h3⟩:=b2q ps λx hx=>hp x (List.mem_cons_of_mem _ hx)
   obtain⟨l0,c1,c2⟩:=hp p (List.mem_cons_self ..)
   refine⟨(1,[111,114])::(l0++L),λr l hb h=>?_,λd l cs hd ha ho=>?_,λl _=>rfl⟩
   . obtain⟨hb2,hx⟩:=h1 r l hb h
     have e:Lib.joinTail [32,111,114,32] ((p::ps).map z6)++r=[32,111,114,32]++(z6 p++(Lib.joinTail [32,111,114,32] (ps.map z6)++r)):=by
      simp only[Lib.joinTail,List.map_cons,List.flatten_cons,List.append_assoc]
     rw[e]
     refine⟨a1C,?_⟩
     have:=Lx.or_ (c1 _ _ hb2 hx)
     simpa only[List.append_assoc,List.cons_append] using this
   . have hc:=c2 d (L++l) (hd p (List.mem_cons_self ..)) (h3 l ha)
     have hj:=h2 d l (cs++[p.cores]) (λx hx=>hd x (List.mem_cons_of_mem _ hx)) ha ho
     have:=b4w hc hj
     simpa only[List.append_assoc,List.cons_append,List.nil_append,List.map_cons] using this
theorem LL.of_tight {m:Nat}{c:Cond}(hm:m<=16)(e:z6 c=v8 c)(h:TL c):LL m c:=by
 obtain⟨L,h1,h2⟩:=h
 refine⟨L,λr l hb hl=>by rw[e];exact h1 r l hb hl,λd l hd ha=>?_⟩
 exact a8Z (h2 d l (by omega)) (a8W (cs:=[c.cores]) ha)
theorem XL.of_loose {m:Nat}{c:Cond}(e:c.pt.2=z6 c)(h:LL m c):XL m c:=by
 obtain⟨L,h1,h2⟩:=h
 refine⟨L,λr l hb hl=>by rw[e];exact h1 r l hb hl,λd l hd ha ho=>?_⟩
 exact a8M (h2 d l hd ha) (a8L (cs:=[c.cores]) ho)
theorem TL.of_par {c:Cond}(e:v8 c=40::(c.pt.2++[41]))(hp:1<=c.deep)(h:XL 17 c):TL c:=by
 obtain⟨L,h1,h2⟩:=h
 refine⟨(5,[40])::(L++[(5,[41])]),λr l hb hl=>?_,λd l hd=>?_⟩
 . have:=Lx.lp (h1 _ _ b5V (Lx.rp hl))
   rw[e]
   simpa only[List.append_assoc,List.cons_append,List.nil_append] using this
 . have:=b5l (by omega) (h2 (d+1) ((5,[41])::l) (by omega) rfl rfl)
   simpa only[List.append_assoc,List.cons_append,List.nil_append] using this
theorem c4l {v:Int}(h:1<=v/\v<=3):a1i v=R6 v:=by
 have:v=1\/v=2\/v=3:=by omega
 rcases this with rfl|rfl|rfl<;>rfl
theorem b9y {c:Cond}(hv:c.valid=true)(hk:c.kind=1):c.n<=10000:=by
 rw[Cond.valid_eq,if_pos hk] at hv
 simp only[Bool.and_eq_true,inR,decide_eq_true_eq] at hv
 omega
structure Rd (c:Cond):Prop where
 tight:TL c
 loose:LL 16 c
 text:XL 16 c
theorem b1W {k:Int}{l:List Cond}(h:2<=l.length):mkC k l=⟨k,0,0,l⟩:=by
 match l,h with
 |a::b::l,_=>rfl
theorem c1C {c:Cond}(hv:c.valid=true)(ht:c.thin=false)(ih:∀p∈c.parts,Rd p):Rd c:=by
 have hcs:=Cond.cores_self ht
 rcases b6M hv ht with k|k|k
 . have T:TL c:=by
    have hv3:c.var=1\/c.var=2\/c.var=3:=by omega
    have hn:=b9y hv k.1
    refine⟨[(1,R6 c.var),(5,[62,61]),(2,Lib.itoa c.n)],λr l hb hl=>?_,λd l hd=>?_⟩
    . rw[b9x ht k.1,c4l ⟨k.2.1,k.2.2.1⟩]
      have:=Lx.cmp hv3 k.2.2.2.1 (by omega) hb hl
      simpa only[List.append_assoc,List.cons_append,List.nil_append] using this
    . rw[hcs,k.1,k.2.2.2.2,List.map_nil]
      have e0:(⟨1,c.var,c.n,[]⟩:Cond)=leC c.var c.n:=rfl
      have:=EvU.cmp (d:=d) (l:=l) hv3 k.2.2.2.1 (by omega:c.n<=1125899906842624)
      exact this
   have L:LL 16 c:=LL.of_tight (Nat.le_refl _) (by rw[T9 ht (by omega),a2Q ht (by omega) (by omega)]) T
   exact⟨T,L,XL.of_loose (by rw[T9 ht (by omega)]) L⟩
 . obtain ⟨k1,k2,k3,p,hp⟩:=k
   have hm:p∈c.parts:=by rw[hp];simp
   have hdp:=a1N hm
   have T:TL c:=by
    obtain⟨L,h1,h2⟩:=(ih p hm).tight
    refine⟨(1,[110,111,116])::L,λr l hb hl=>?_,λd l hd=>?_⟩
    . rw[c0G ht k1 hp]
      have:=Lx.not_ (h1 r l hb hl)
      simpa only[List.append_assoc,List.cons_append,List.nil_append] using this
    . rw[hcs,k1,k2,k3,hp,List.map_cons,List.map_nil]
      exact b5k (by omega) (h2 (d+1) l (by omega))
   have L:LL 16 c:=LL.of_tight (Nat.le_refl _) (by rw[T9 ht (by omega),a2Q ht (by omega) (by omega)]) T
   exact⟨T,L,XL.of_loose (by rw[T9 ht (by omega)]) L⟩
 . obtain⟨k1,k2,k3,k4⟩:=k
   obtain⟨p1,ps,hps⟩:∃p1 ps,c.parts=p1::ps:=by
    cases h:c.parts with
    |nil=>rw[h] at k4;simp at k4
    |cons a b=>exact⟨a,b,rfl⟩
   have hm:p1∈c.parts:=by rw[hps];simp
   have hd1:=a1N hm
   have hml:∀p∈ps,p∈c.parts:=λp hp=>by rw[hps];exact List.mem_cons_of_mem _ hp
   have hl2:2<=(p1.cores::ps.map Cond.cores).length:=by
    rw[hps] at k4
    simpa using k4
   by_cases h2:c.kind=2
   . have hcc:c.cores=mkC 2 (p1.cores::ps.map Cond.cores):=by rw[hcs,h2,k2,k3,hps,b1W hl2];rfl
     have hL:LL 17 c:=by
      obtain⟨l0,c1,c2⟩:=(ih p1 hm).tight
      obtain⟨L,h3,h4⟩:=a9r ps λp hp=>(ih p (hml p hp)).tight
      refine⟨l0++L,λr l hb hl=>?_,λd l hd ha=>?_⟩
      . rw[b9P ht,a5A,if_pos h2,hps,List.map_cons,Lib.join_cons,List.append_assoc,List.append_assoc]
        obtain⟨hb2,hx⟩:=h3 r l hb hl
        exact c1 _ _ hb2 hx
      . rw[hcc,List.append_assoc]
        refine a8Z (c2 d (L++l) (by omega)) ?_
        have:=h4 d l [p1.cores] (λp hp=>by have:=a1N (hml p hp);omega) ha
        exact this
     have hX:XL 17 c:=XL.of_loose (by rw[T9 ht (by omega)]) hL
     exact⟨TL.of_par (b3H ht k1) (by omega) hX,hL.le (by omega),hX.le (by omega)⟩
   . have h3:c.kind=3:=by omega
     have hcc:c.cores=mkC 3 (p1.cores::ps.map Cond.cores):=by rw[hcs,h3,k2,k3,hps,b1W hl2];rfl
     have hX:XL 17 c:=by
      obtain⟨l0,c1,c2⟩:=(ih p1 hm).loose
      obtain⟨L,h4,h5,h6⟩:=b2q ps λp hp=>(ih p (hml p hp)).loose
      refine⟨l0++L,λr l hb hl=>?_,λd l hd ha ho=>?_⟩
      . rw[c3r hv ht,orL,if_pos h3,hps,List.map_cons,Lib.join_cons,List.append_assoc,List.append_assoc]
        obtain⟨hb2,hx⟩:=h4 r l hb hl
        exact c1 _ _ hb2 hx
      . rw[hcc,List.append_assoc]
        refine a8M (c2 d (L++l) (by omega) (h6 l ha)) ?_
        have:=h5 d l [p1.cores] (λp hp=>by have:=a1N (hml p hp);omega) ha ho
        exact this
     have T:=TL.of_par (b3H ht k1) (by omega) hX
     exact⟨T,LL.of_tight (Nat.le_refl _) (b1L ht h3) T,hX.le (by omega)⟩
theorem a7q (c:Cond)(hv:c.valid=true):Rd c:=by
 have hvc:=(y8 c).valid hv
 have hsz:=(y8 c).size
 have hdp:=a5U c
 have ih:∀p∈c.core.parts,Rd p:=λp hp=>by
  have:=Cond.size_part hp
  exact a7q p (Cond.valid_parts hvc p hp)
 obtain⟨⟨A,a1,a2⟩,⟨B,b1,b2⟩,⟨D,d1,d2⟩⟩:=c1C hvc (y8 c).thin ih
 rw[c3w] at a1
 rw[b9N] at b1
 rw[(y8 c).pt] at d1
 rw[Cond.cores_core] at a2 b2 d2
 exact⟨⟨A,a1,λd l h=>a2 d l (by omega)⟩,⟨B,b1,λd l h=>b2 d l (by omega)⟩,⟨D,d1,λd l h=>d2 d l (by omega)⟩⟩
termination_by SizeOf.sizeOf c
decreasing_by omega
theorem b6v {c:Cond}(h:c.errno=0)(hl:c.pt.2.length<=65536):H4 c.pt.2=(c.cores,0,0):=by
 have hr:=(a6j c).1 h
 simp only[Cond.rok,Bool.and_eq_true,decide_eq_true_eq] at hr
 obtain⟨L,h1,h2⟩:=(a7q c hr.2).text
 have hx:=h1 [] [(6,[])] Brk.nil Lx.nil
 rw[List.append_nil] at hx
 exact b6t hl hx (h2 0 [(6,[])] (by omega) rfl rfl)
theorem a5W {b:Int}(h:1<=b/\b<=5)(l:List BT):a5i (y9 b)=true/\a1K ((1,y9 b)::l)=some b/\A4 [101,108,115,101] ((1,y9 b)::l)=false:=by
 have:b=1\/b=2\/b=3\/b=4\/b=5:=by omega
 rcases this with rfl|rfl|rfl|rfl|rfl<;>exact⟨by decide,rfl,rfl⟩
def SL1 (s:Step):Prop:=∃L:List BT,(∀r l,Lx r l->Lx (s.tx++r) (L++l))/\
 (∀d l l1 acc x,d+s.deep<=16->A4 [101,108,115,101] l=false->EvS d (acc++[s.cores]) l x l1->EvS d acc (L++l) x l1)/\∀l,A4 [101,108,115,101] (L++l)=false
theorem a7N:∀(x:List Step) (b:Bool),(∀s∈x,SL1 s)->∃L:List BT,(∀r l,Lx r l->Lx (j2 b (x.map Step.tx)++r) (L++l))/\
 (∀d l acc,(∀s∈x,d+s.deep<=16)->a8P l->acc++x.map Step.cores≠[]->EvS d acc (L++l) (acc++x.map Step.cores) l)/\∀l,a8P l->A4 [101,108,115,101] (L++l)=false
 | [],b,_=>by
   refine⟨[],λr l h=>by cases b<;>exact h,λd l acc _ he hne=>?_,λl he=>?_⟩
   . rw[List.map_nil,List.append_nil] at hne⊢
     rcases he with⟨r,rfl⟩|rfl
     . exact a9e hne rfl rfl
     . exact a9e hne rfl rfl
   . rcases he with⟨r,rfl⟩|rfl<;>rfl
 | s ::x,b,h=>by
   obtain⟨L,h1,h2,h3⟩:=a7N x false λy hy=>h y (List.mem_cons_of_mem _ hy)
   obtain⟨l0,s1,s2,s3⟩:=h s (List.mem_cons_self ..)
   refine⟨l0++L,λr l hl=>?_,λd l acc hd he hne=>?_,λl he=>by rw[List.append_assoc];exact s3 _⟩
   . have:=s1 _ _ (h1 r l hl)
     cases b
     . have:=Lx.sp this
       simpa only[List.map_cons,j2,List.append_assoc,List.cons_append,List.nil_append] using this
     . simpa only[List.map_cons,j2,List.append_assoc,List.cons_append,List.nil_append] using this
   . rw[List.append_assoc]
     refine s2 d (L++l) l acc _ (hd s (List.mem_cons_self ..)) (h3 l he) ?_
     have:=h2 d l (acc++[s.cores]) (λy hy=>hd y (List.mem_cons_of_mem _ hy)) he (by simp)
     simpa only[List.map_cons,List.append_assoc,List.cons_append,List.nil_append] using this
theorem b3k {x:List Step}(hne:x≠[])(h:∀s∈x,SL1 s):∃L:List BT,(∀r l,Lx r l->Lx ([123,32]++(g9 x++([32,125]++r))) ((5,[123])::(L++(5,[125])::l)))/\
 ∀d l,(∀s∈x,d+s.deep<=16)->EvB d ((5,[123])::(L++(5,[125])::l)) (x.map Step.cores) l:=by
 obtain⟨L,h1,h2,h3⟩:=a7N x true h
 refine⟨L,λr l hl=>?_,λd l hd=>?_⟩
 . have:=Lx.lb (Lx.sp (h1 _ _ (Lx.sp (Lx.rb hl))))
   simpa only[g9,List.append_assoc,List.cons_append,List.nil_append] using this
 . have:=h2 d ((5,[125])::l) [] hd (.inl ⟨_,rfl⟩) (by simpa using hne)
   exact b4t this
theorem a7O (s:Step)(hv:s.valid=true)(hdk:s.dok=true):SL1 s:=by
 have hT:∀x∈s.th,s.kind=2->SL1 x:=λx hx hk=>by
  have:=List.sizeOf_lt_of_mem hx
  have:=Step.szl s
  have hlt:SizeOf.sizeOf x<SizeOf.sizeOf s:=by omega
  have hv':=hv
  rw[Step.valid_eq,if_neg (by omega),if_pos hk] at hv'
  simp only[Bool.and_eq_true,decide_eq_true_eq,List.all_eq_true] at hv'
  rw[Step.dok_eq] at hdk
  simp only[Bool.and_eq_true] at hdk
  exact a7O x (hv'.2.2.2.1 x hx) (a7D hx hdk.2.1)
 have hE:∀x∈s.el,s.kind=2->SL1 x:=λx hx hk=>by
  have:=List.sizeOf_lt_of_mem hx
  have:=Step.szl s
  have hlt:SizeOf.sizeOf x<SizeOf.sizeOf s:=by omega
  have hv':=hv
  rw[Step.valid_eq,if_neg (by omega),if_pos hk] at hv'
  simp only[Bool.and_eq_true,decide_eq_true_eq,List.all_eq_true] at hv'
  rw[Step.dok_eq] at hdk
  simp only[Bool.and_eq_true] at hdk
  exact a7O x (hv'.2.2.2.2 x hx) (a7D hx hdk.2.2)
 by_cases hk:s.kind=1
 . have hz:=Step.zero hv hk
   have hb:1<=s.crit/\s.crit<=5:=by
    rw[Step.valid_eq,if_pos hk] at hv
    simp only[Bool.and_eq_true,inR,decide_eq_true_eq] at hv
    omega
   have hc:s.cores=⟨1,s.crit,⟨0,0,0,[]⟩,[],[]⟩:=by
    rw[Step.cores_eq,hk,if_neg (by decide),hz.1,hz.2.1,hz.2.2];rfl
   refine⟨[(1,y9 s.crit),(5,[59])],λr l hl=>?_,λd l l1 acc x _ _ hx=>?_,λl=>(a5W hb _).2.2⟩
   . rw[c3U hk]
     exact Lx.word (a5W hb []).1 b5W (Lx.sc hl)
   . rw[hc] at hx
     exact b4Y (a5W hb _).2.1 hx
 . have hk2:s.kind=2:=by
    rw[Step.valid_eq,if_neg hk] at hv
    by_cases h2:s.kind=2
    . exact h2
    . rw[if_neg h2] at hv;cases hv
   have hv':=hv
   rw[Step.valid_eq,if_neg (by omega),if_pos hk2] at hv'
   simp only[Bool.and_eq_true,decide_eq_true_eq,List.all_eq_true] at hv'
   obtain⟨hcr,hcv,hth,_,_⟩:=hv'
   have hdc:s.cond.deep<=16:=by
    rw[Step.dok_eq] at hdk
    simp only[Bool.and_eq_true,Cond.dok,Bool.or_eq_true,decide_eq_true_eq] at hdk
    rcases hdk.1 with h|h
    . exfalso
      simp only[Cond.isZero,Bool.and_eq_true,decide_eq_true_eq] at h
      rw[Cond.valid_eq,if_neg (by omega),if_neg (by omega),if_neg (by omega)] at hcv
      cases hcv
    . exact h
   obtain⟨lc,c1,c2⟩:=(a7q s.cond hcv).text
   have htne:s.th≠[]:=by intro e;rw[e] at hth;simp at hth
   obtain⟨Lt,t1,t2⟩:=b3k htne λx hx=>hT x hx hk2
   have hdt:∀x∈s.th,1+x.deep<=s.deep:=λx hx=>by
    have:=a7C hx
    rw[Step.deep_eq s];omega
   have hde:∀x∈s.el,1+x.deep<=s.deep:=λx hx=>by
    have:=a7C hx
    rw[Step.deep_eq s];omega
   have hd1:1<=s.deep:=by
    cases h:s.th with
    |nil=>exact absurd h htne
    | cons a b=>
      have:=hdt a (by rw[h];simp)
      omega
   by_cases he0:s.el=[]
   . have hc:s.cores=⟨2,0,s.cond.cores,s.th.map Step.cores,[]⟩:=by
      rw[Step.cores_eq,hk2,if_pos rfl,hcr,he0];rfl
     refine⟨(1,[105,102])::(lc++((5,[123])::(Lt++[(5,[125])]))),λr l hl=>?_,λd l l1 acc x hd hel hx=>?_,λl=>rfl⟩
     . rw[b3V hk2,he0,if_neg (by simp)]
       have:=Lx.ws (w:=[105,102]) (by decide) (c1 _ _ a1C (Lx.sp (t1 r l hl)))
       simpa only[List.append_assoc,List.cons_append,List.nil_append] using this
     . rw[hc] at hx
       have:=b4Z (by omega) (c2 0 ((5,[123])::(Lt++(5,[125])::l)) (by omega) rfl rfl) (t2 (d+1) l λy hy=>by have:=hdt y hy;omega) hel hx
       simpa only[List.append_assoc,List.cons_append,List.nil_append] using this
   . obtain ⟨Le,e1,e2⟩:=b3k he0 λx hx=>hE x hx hk2
     have hc:s.cores=⟨2,0,s.cond.cores,s.th.map Step.cores,s.el.map Step.cores⟩:=by
      rw[Step.cores_eq,hk2,if_pos rfl,hcr]
     have hlen:0<s.el.length:=List.length_pos_iff.2 he0
     refine⟨(1,[105,102])::(lc++((5,[123])::(Lt++((5,[125])::(1,[101,108,115,101])::(5,[123])::(Le++[(5,[125])]))))),λr l hl=>?_,λd l l1 acc x hd hel hx=>?_,λl=>rfl⟩
     . rw[b3V hk2,if_pos hlen]
       have:=Lx.ws (w:=[105,102]) (by decide) (c1 _ _ a1C (Lx.sp (t1 _ _ (Lx.sp (Lx.ws (w:=[101,108,115,101]) (by decide) (e1 r l hl))))))
       simpa only[List.append_assoc,List.cons_append,List.nil_append] using this
     . rw[hc] at hx
       have:=b5a (by omega) (c2 0 ((5,[123])::(Lt++(5,[125])::(1,[101,108,115,101])::(5,[123])::(Le++(5,[125])::l))) (by omega) rfl rfl) (t2 (d+1) _ λy hy=>by have:=hdt y hy;omega) (e2 (d+1) l λy hy=>by have:=hde y hy;omega) hx
       simpa only[List.append_assoc,List.cons_append,List.nil_append] using this
termination_by SizeOf.sizeOf s
decreasing_by all_goals exact hlt
theorem a4X {l:List Step}(h:p8 l=0):l≠[]/\(∀s∈l,s.valid=true)/\Step.deepL l<=17/\Step.dokL l=true/\Step.nstL l<=64/\Step.ncdL l<=256:=by
 unfold p8 at h
 split at h
 . rename_i hf
   split at h
   . rename_i hv
     obtain⟨k1,k2,k3,k4⟩:=F_S l
     simp only[l8,Bool.or_eq_true,Bool.and_eq_true,decide_eq_true_eq,k1,k2,k3,k4] at hf
     rcases hf with hf|hf
     . exact absurd (by simpa[e9] using hf) hv.1
     . exact⟨hv.1,List.all_eq_true.1 hv.2,by omega,hf.1.2,by omega,by omega⟩
   . cases h
 . cases h
theorem c3s {l:List Step}(h:p8 l=0)(hl:(g9 l).length<=65536):I6 (g9 l)=(l.map Step.cores,0,0):=by
 obtain⟨hne,hv,hd,hok,_,_⟩:=a4X h
 obtain⟨L,h1,h2,_⟩:=a7N l true λs hs=>a7O s (hv s hs) (a7D hs hok)
 have hx:=h1 [] [(6,[])] Lx.nil
 rw[List.append_nil] at hx
 refine c2T hl hx ?_
 have:=h2 0 [(6,[])] [] (λs hs=>by have:=a7C hs;omega) (.inr rfl) (by simpa using hne)
 simpa only[List.nil_append] using this
end Go.Proofs.YteillnfhkeebjaaGreatDoor.Dx
/- Chapter 08: cores are valid,hold and apply as what they are the cores of (plain). -/
namespace Go.Proofs.YteillnfhkeebjaaGreatDoor.Dx
open Go Go.RowKit Go.Proofs
set_option maxRecDepth 100000
set_option maxHeartbeats 4000000
structure Cores (c:Cond):Prop where
 total:c.cores.total<=c.total
 deep:c.cores.deep<=c.deep
 valid:c.valid=true->c.cores.valid=true
 holds:∀x:Env,c.valid=true->c.cores.holds x=c.holds x
theorem b3Q {f:Cond->Cond}:∀{l:List Cond},(∀p∈l,(f p).total<=p.total)->Cond.totalL (l.map f)<=Cond.totalL l
 |[],_=>Nat.le_refl _
 | p::l,h=>by
   have h1:=h p (List.mem_cons_self ..)
   have h2:=b3Q (f:=f) (l:=l) λq hq=>h q (List.mem_cons_of_mem _ hq)
   simp only[List.map_cons,Cond.totalL]
   omega
theorem b0g {f:Cond->Cond}:∀{l:List Cond},(∀p∈l,(f p).deep<=p.deep)->Cond.deepL (l.map f)<=Cond.deepL l
 |[],_=>Nat.le_refl _
 | p::l,h=>by
   have h1:=h p (List.mem_cons_self ..)
   have h2:=b0g (f:=f) (l:=l) λq hq=>h q (List.mem_cons_of_mem _ hq)
   simp only[List.map_cons,Cond.deepL]
   omega
theorem b8A (x:Env){c p:Cond}(h:c.kind=2\/c.kind=3)(hp:c.parts=[p]):c.holds x=p.holds x:=by
 rw[a3P,if_neg (by omega),if_neg (by omega),hp]
 split<;>simp
theorem b1c (x:Env)(c:Cond):c.core.holds x=c.holds x:=by
 cases ht:c.thin with
 |false=>rw[Cond.core_self ht]
 | true=>
   obtain⟨hk,p,hp⟩:=Cond.thin_cases ht
   have hm:p∈c.parts:=by rw[hp];simp
   have hsz:=Cond.size_part hm
   rw[Cond.core_thin hk hp,b8A x hk hp]
   exact b1c x p
termination_by SizeOf.sizeOf c
decreasing_by exact hsz
theorem b6P {c:Cond}(ht:c.thin=false)(ih:∀p∈c.parts,Cores p):Cores c:=by
 have e:=Cond.cores_self ht
 refine⟨?_,?_,λhv=>?_,λx hv=>?_⟩
 . rw[e,Cond.total_eq,Cond.total_eq]
   have:=b3Q (f:=Cond.cores) λp hp=>(ih p hp).total
   dsimp only
   omega
 . rw[e,Cond.deep_eq,Cond.deep_eq]
   exact b0g (f:=Cond.cores) λp hp=>(ih p hp).deep
 . have hp:=Cond.valid_parts hv
   have hall:(c.parts.map Cond.cores).all Cond.valid=true:=by
    rw[List.all_eq_true]
    intro y hy
    obtain⟨p,hm,rfl⟩:=List.mem_map.1 hy
    exact(ih p hm).valid (hp p hm)
   rw[e,Cond.valid_eq]
   rw[Cond.valid_eq] at hv
   dsimp only
   rw[List.length_map,hall]
   have hall2:c.parts.all Cond.valid=true:=List.all_eq_true.2 hp
   rw[hall2] at hv
   exact hv
 . have hp:=Cond.valid_parts hv
   rw[e,a3P,a3P]
   dsimp only
   have hh:∀p∈c.parts,p.cores.holds x=p.holds x:=λp hm=>(ih p hm).holds x (hp p hm)
   have e1:(c.parts.map Cond.cores).any (Cond.holds x)=c.parts.any (Cond.holds x):=by
    rw[List.any_map,Bool.eq_iff_iff,List.any_eq_true,List.any_eq_true]
    exact⟨λ⟨p,hm,h⟩=>⟨p,hm,by rw[<-hh p hm];exact h⟩,λ⟨p,hm,h⟩=>⟨p,hm,(hh p hm).trans h⟩⟩
   have e2:(c.parts.map Cond.cores).all (Cond.holds x)=c.parts.all (Cond.holds x):=by
    rw[List.all_map,Bool.eq_iff_iff,List.all_eq_true,List.all_eq_true]
    exact⟨λh p hm=>by rw[<-hh p hm];exact h p hm,λh p hm=>(hh p hm).trans (h p hm)⟩
   rw[e1,e2]
   split
   . rfl
   . split
     . cases hps:c.parts with
       |nil=>rfl
       | cons p ps=>
         rw[List.map_cons]
         dsimp only
         rw[hh p (by rw[hps];simp)]
     . rfl
theorem a3x (c:Cond):Cores c:=by
 have hsz:=(y8 c).size
 have ih:∀p∈c.core.parts,Cores p:=λp hp=>by
  have:=Cond.size_part hp
  exact a3x p
 obtain⟨h1,h2,h3,h4⟩:=b6P (y8 c).thin ih
 rw[Cond.cores_core] at h1 h2 h3 h4
 have hd:=a5U c
 have ht:=(y8 c).total
 exact⟨by omega,by omega,λhv=>h3 ((y8 c).valid hv),λx hv=>(h4 x ((y8 c).valid hv)).trans (b1c x c)⟩
termination_by SizeOf.sizeOf c
decreasing_by omega
theorem b6O {c:Cond}(h:c.errno=0):c.cores.errno=0:=by
 rw[a6j] at h⊢
 have:=a3x c
 simp only[Cond.rok,Bool.and_eq_true,decide_eq_true_eq] at h⊢
 exact⟨⟨by have:=this.total;omega,by have:=this.deep;omega⟩,this.valid h.2⟩
theorem b8z {c:Cond}(h:c.errno=0)(x:Env):M2 c.cores x=M2 c x:=by
 unfold M2
 rw[if_pos h,if_pos (b6O h),(a3x c).holds x (a7w h)]
structure SCores (s:Step):Prop where
 nst:s.cores.nst=s.nst
 deep:s.cores.deep=s.deep
 ncd:s.valid=true->s.cores.ncd<=s.ncd
 dok:s.valid=true->s.dok=true->s.cores.dok=true
 valid:s.valid=true->s.cores.valid=true
 app:∀(x:Env) acc,s.valid=true->s.cores.app x acc=s.app x acc
theorem a4H:∀{l:List Step},(∀s∈l,SCores s)->Step.nstL (l.map Step.cores)=Step.nstL l
 |[],_=>rfl
 | s::l,h=>by
   simp only[List.map_cons,Step.nstL]
   rw[(h s (List.mem_cons_self ..)).nst,a4H λq hq=>h q (List.mem_cons_of_mem _ hq)]
theorem a4D:∀{l:List Step},(∀s∈l,SCores s)->Step.deepL (l.map Step.cores)=Step.deepL l
 |[],_=>rfl
 | s::l,h=>by
   simp only[List.map_cons,Step.deepL]
   rw[(h s (List.mem_cons_self ..)).deep,a4D λq hq=>h q (List.mem_cons_of_mem _ hq)]
theorem a4G:∀{l:List Step},(∀s∈l,SCores s)->(∀s∈l,s.valid=true)->Step.ncdL (l.map Step.cores)<=Step.ncdL l
 |[],_,_=>Nat.le_refl _
 | s::l,h,hv=>by
   have h1:=(h s (List.mem_cons_self ..)).ncd (hv s (List.mem_cons_self ..))
   have h2:=a4G (l:=l) (λq hq=>h q (List.mem_cons_of_mem _ hq)) λq hq=>hv q (List.mem_cons_of_mem _ hq)
   simp only[List.map_cons,Step.ncdL]
   omega
theorem a4E:∀{l:List Step},(∀s∈l,SCores s)->(∀s∈l,s.valid=true)->Step.dokL l=true->Step.dokL (l.map Step.cores)=true
 |[],_,_,_=>rfl
 | s::l,h,hv,hd=>by
   simp only[Step.dokL,Bool.and_eq_true] at hd
   simp only[List.map_cons,Step.dokL,Bool.and_eq_true]
   exact⟨(h s (List.mem_cons_self ..)).dok (hv s (List.mem_cons_self ..)) hd.1,a4E (λq hq=>h q (List.mem_cons_of_mem _ hq)) (λq hq=>hv q (List.mem_cons_of_mem _ hq)) hd.2⟩
theorem a4C (x:Env):∀{l:List Step} (acc:List Int),(∀s∈l,SCores s)->(∀s∈l,s.valid=true)->Step.appL x (l.map Step.cores) acc=Step.appL x l acc
 |[],_,_,_=>rfl
 | s::l,acc,h,hv=>by
   simp only[List.map_cons,Step.appL]
   rw[(h s (List.mem_cons_self ..)).app x acc (hv s (List.mem_cons_self ..))]
   exact a4C x _ (λq hq=>h q (List.mem_cons_of_mem _ hq)) λq hq=>hv q (List.mem_cons_of_mem _ hq)
theorem a4q {c:Cond}(h:c.valid=true):c.isZero=false:=by
 cases hz:c.isZero with
 |false=>rfl
 | true=>
   simp only[Cond.isZero,Bool.and_eq_true,decide_eq_true_eq] at hz
   rw[Cond.valid_eq,if_neg (by omega),if_neg (by omega),if_neg (by omega)] at h
   cases h
theorem a4F (s:Step):SCores s:=by
 have hT:∀x∈s.th,SCores x:=λx hx=>by
  have:=List.sizeOf_lt_of_mem hx
  have:=Step.szl s
  have hlt:SizeOf.sizeOf x<SizeOf.sizeOf s:=by omega
  exact a4F x
 have hE:∀x∈s.el,SCores x:=λx hx=>by
  have:=List.sizeOf_lt_of_mem hx
  have:=Step.szl s
  have hlt:SizeOf.sizeOf x<SizeOf.sizeOf s:=by omega
  exact a4F x
 have hc:=a3x s.cond
 have e:=Step.cores_eq s
 refine⟨?_,?_,λhv=>?_,λhv hd=>?_,λhv=>?_,λx acc hv=>?_⟩
 . rw[e,Step.nst_eq,Step.nst_eq]
   dsimp only
   rw[a4H hT,a4H hE]
 . rw[e,Step.deep_eq,Step.deep_eq]
   dsimp only
   rw[a4D hT,a4D hE]
 . rw [e,Step.ncd_eq,Step.ncd_eq]
   dsimp only
   rcases a2W hv with k|⟨k,hcv,ht,he⟩
   . have hz:=Step.zero hv k
     rw[if_neg (by omega),hz.2.1,hz.2.2]
     exact Nat.le_refl _
   . rw[if_pos k]
     have h1:=a4G hT ht
     have h2:=a4G hE he
     have h3:s.cond.cores.num<=s.cond.num:=by
      unfold Cond.num
      rw[a4q hcv,a4q (hc.valid hcv)]
      exact hc.total
     omega
 . rw [Step.dok_eq] at hd
   simp only[Bool.and_eq_true] at hd
   rw[e,Step.dok_eq]
   dsimp only
   rcases a2W hv with k|⟨k,hcv,ht,he⟩
   . have hz:=Step.zero hv k
     rw[if_neg (by omega),hd.1,hz.2.1,hz.2.2]
     rfl
   . rw[if_pos k,a4E hT ht hd.2.1,a4E hE he hd.2.2]
     have h3:s.cond.cores.dok=true:=by
      have:=hd.1
      simp only[Cond.dok,Bool.or_eq_true,decide_eq_true_eq,a4q hcv,a4q (hc.valid hcv)] at this⊢
      have:=hc.deep
      simp_all
      omega
     rw[h3];rfl
 . rw [e,Step.valid_eq]
   dsimp only
   rcases a2W hv with k|⟨k,hcv,ht,he⟩
   . have hz:=Step.zero hv k
     rw[Step.valid_eq,if_pos k] at hv
     rw[if_pos k,if_neg (by omega),hz.2.1,hz.2.2]
     rw[hz.2.1,hz.2.2] at hv
     exact hv
   . have h1:(s.th.map Step.cores).all Step.valid=true:=by
      rw[List.all_eq_true]
      intro y hy
      obtain⟨p,hm,rfl⟩:=List.mem_map.1 hy
      exact(hT p hm).valid (ht p hm)
     have h2:(s.el.map Step.cores).all Step.valid=true:=by
      rw[List.all_eq_true]
      intro y hy
      obtain⟨p,hm,rfl⟩:=List.mem_map.1 hy
      exact(hE p hm).valid (he p hm)
     rw[Step.valid_eq,if_neg (by omega),if_pos k] at hv
     rw[if_neg (by omega),if_pos k,if_pos k,hc.valid hcv,h1,h2,List.length_map]
     rw[hcv] at hv
     simp only[Bool.and_eq_true,decide_eq_true_eq] at hv⊢
     exact⟨hv.1,True.intro,hv.2.2.1,True.intro,True.intro⟩
 . rw [e,a5B,a5B]
   dsimp only
   rcases a2W hv with k|⟨k,hcv,ht,he⟩
   . have h2:¬s.kind=2:=by omega
     simp only[if_neg h2]
   . rw[if_pos k,if_pos k,if_pos k,hc.holds x hcv,a4C x acc hT ht,a4C x acc hE he]
termination_by SizeOf.sizeOf s
decreasing_by all_goals exact hlt
theorem c3t {l:List Step}(h:p8 l=0):p8 (l.map Step.cores)=0:=by
 obtain⟨hne,hv,hd,hok,hn,hc⟩:=a4X h
 have hs:∀s∈l,SCores s:=λs _=>a4F s
 unfold p8
 obtain⟨k1,k2,k3,k4⟩:=F_S (l.map Step.cores)
 have e1:=a4H hs
 have e2:=a4G hs hv
 have e3:=a4D hs
 have e4:=a4E hs hv hok
 rw[if_pos,if_pos]
 . refine⟨by simpa using hne,?_⟩
   rw[List.all_eq_true]
   intro y hy
   obtain⟨p,hm,rfl⟩:=List.mem_map.1 hy
   exact(hs p hm).valid (hv p hm)
 . simp only[l8,Bool.or_eq_true,Bool.and_eq_true,decide_eq_true_eq,k1,k2,k3,k4]
   exact .inr ⟨⟨by omega,e4⟩,by omega,by omega⟩
theorem b7o {l:List Step}(h:p8 l=0)(x:Env):E3 (l.map Step.cores) x=E3 l x:=by
 unfold E3
 rw[if_pos h,if_pos (c3t h),a4C x [] (λs _=>a4F s) (a4X h).2.1]
end Go.Proofs.YteillnfhkeebjaaGreatDoor.Dx
